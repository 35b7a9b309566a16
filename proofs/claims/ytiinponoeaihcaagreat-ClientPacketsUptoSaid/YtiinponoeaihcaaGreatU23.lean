/- commonsref07.Inner: the bytes of questions and their answers. -/
import Derived.Test.YtiinponoeaihcaaGreatU21
import Derived.Test.YtiinponoeaihcaaGreatU22
import Derived.Test.YtiinponoeaihcaaGreatU18
set_option linter.unusedVariables false
set_option linter.unusedSimpArgs false
set_option linter.unusedSectionVars false
namespace Go.Proofs.YtiinponoeaihcaaGreat
open Go.RowKit Go.Shelf

attribute [local go_sem] Oper.semAt_some
def bAt (p : Pk) : Nat → Int
  | 0 => p.b0
  | 1 => p.b1
  | 2 => p.b2
  | _ => p.b3
theorem pk_blk (p : Pk) {i : Nat} (hi : i < 4) : (pkC p)[31 + i]? = some (.int .i64 (bAt p i)) := by
  rcases (by omega : i = 0 ∨ i = 1 ∨ i = 2 ∨ i = 3) with rfl | rfl | rfl | rfl <;> rfl
theorem PkW.bAt {p : Pk} (h : PkW p) {i : Nat} (hi : i < 4) : I64 (bAt p i) := by
  rcases (by omega : i = 0 ∨ i = 1 ∨ i = 2 ∨ i = 3) with rfl | rfl | rfl | rfl
  · exact h.b0
  · exact h.b1
  · exact h.b2
  · exact h.b3
def inB (p : Pk) : Nat → Sw → Sw
  | 0, s => s
  | i + 1, s => stN (inB p i s) (bAt p i) 1 0 9223372036854775807
theorem inB_succ (p : Pk) (i : Nat) (s : Sw) : inB p (i + 1) s = stN (inB p i s) (bAt p i) 1 0 9223372036854775807 := rfl
theorem inB_len (p : Pk) (s : Sw) {m : Nat} (h : s.1.length ≤ m) : ∀ i, (inB p i s).1.length ≤ m + i
  | 0 => h
  | i + 1 => by
    have := stN_len _ (bAt p i) 1 0 9223372036854775807 (inB_len p s h i)
    rw [inB_succ]
    omega
def inNm (L : List (List UInt8)) (s : Sw) : Sw := L.foldl (fun s x => stT s ⟨x.toArray⟩ 1 12) s
theorem inNm_snoc (L : List (List UInt8)) (x : List UInt8) (s : Sw) : inNm (L ++ [x]) s = stT (inNm L s) ⟨x.toArray⟩ 1 12 := by
  unfold inNm
  rw [List.foldl_append]
  rfl
theorem nmB_snoc (L : List (List UInt8)) (x : List UInt8) : nmB (L ++ [x]) = nmB L + (x.length + 1) := by
  unfold nmB
  rw [List.map_append, List.sum_append]
  rfl
theorem nmB_take (L : List (List UInt8)) (i : Nat) : nmB (L.take i) ≤ nmB L := by
  have h := List.take_append_drop i L
  have : nmB L = nmB (L.take i) + nmB (L.drop i) := by
    unfold nmB
    rw [← List.sum_append, ← List.map_append, h]
  omega
theorem nmB_at {L : List (List UInt8)} {i : Nat} {x : List UInt8} (h : L[i]? = some x) : nmB (L.take (i + 1)) = nmB (L.take i) + (x.length + 1) := by
  rw [List.take_add_one, h]
  exact nmB_snoc _ _
theorem byArr_size (x : List UInt8) : (⟨x.toArray⟩ : ByteArray).size = x.length := List.size_toArray
def in4 (p : Pk) (L : List (List UInt8)) : Sw := inNm L (stN (inB p 4 (in4a p)) L.length 1 0 16)
set_option maxHeartbeats 16000000 in
set_option maxRecDepth 100000 in
theorem inner3_any (p : Pk) (hk : p.kd = 3) (A : Option Addr) (c : Nat) (L : List (List UInt8)) (hnv : p.nv = .slice A L.length c) (hL : L.length ≤ 2000000) (w : World) (hS : StrR w A L) (hpk : PkW p) :
    Calls Tryz.prog 16 #[.agg (pkC p)] w (InP p (oth3 p) (in3 p) w) := by
  have HO := Lib.hid (fun W (hW : Below w.heap.size w W) => others3_any p hk A c L hnv hL W (hS.keep hW) hpk)
  have hp := Lib.hid hpk
  clear hnv hL hS hpk
  go_enter Tryz.func16, Tryz.ntmps16
  go_upto_region 2 with fail
  obtain ⟨w1, hw⟩ : ∃ u, u = (w.alloc (.cells (pkC p) 41)).alloc (.cells #[.slice none 0 0, .bool false] 74) := ⟨_, rfl⟩
  obtain ⟨n0, hn⟩ : ∃ u, u = w.heap.size := ⟨_, rfl⟩
  have hH : WrS (n0 + 1) ([], false) w [(n0, .cells (pkC p) 41 (0, 0))] w1 := by
    rw [hw, hn]
    exact wr_new p w
  rw [← hw, ← hn]
  have H1 := Lib.hid hH
  have Hn := Lib.hid hn
  have HL1 : Hid ((([], false) : Sw).1.length ≤ 0) := Lib.hid (Nat.le_refl _)
  clear hw hn hH
  have hb := H1.out.get (k := n0) List.mem_cons_self
  have a0 : w1.cell? ⟨n0, 0, none⟩ = some (.int .i64 3) := (by rw [← hk]; exact cell_of_row w1 n0 0 _ _ _ hb)
  have hN : Calls Tryz.prog 28 #[.pointer (some ⟨n0 + 1, 0, none⟩), .int .i64 3, .int .i64 1, .int .i64 1, .int .i64 5] w1 fun e w' => e = .returned (.tuple #[]) ∧ WrS (n0 + 1) (stN ([], false) 3 1 1 5) w [(n0, .cells (pkC p) 41 (0, 0))] w' := wst_num 3 1 1 5 (Or.inl rfl) (small_I64 (by decide)) HL1.out (by omega) w1 H1.out
  obtain ⟨s2, hs⟩ : ∃ s, s = stN ([], false) 3 1 1 5 := ⟨_, rfl⟩
  rw [← hs] at hN
  have HL2 : Hid (s2.1.length ≤ 1) := Lib.hid (by rw [hs]; exact stN_len _ _ _ _ _ HL1.out)
  have HS2 := Lib.hid hs
  have HN := Lib.hid hN
  clear hb hN hs HL1
  go_upto_region 3 with ((with_reducible refine HN.out.mono ?_); rintro e w2 ⟨rfl, hx⟩; have hb := hx.get (k := n0) List.mem_cons_self; have a0 : w2.cell? ⟨n0, 0, none⟩ = some (.int .i64 3) := (by rw [← hk]; exact cell_of_row w2 n0 0 _ _ _ hb); have H2 := Lib.hid hx; clear hx hb)
  clear HN H1 a0
  have hb := H2.out.get (k := n0) List.mem_cons_self
  have a1 : w2.cell? ⟨n0, 1, none⟩ = some (.int .i64 p.cl) := cell_of_row w2 n0 1 _ _ _ hb
  have hN : Calls Tryz.prog 28 #[.pointer (some ⟨n0 + 1, 0, none⟩), .int .i64 p.cl, .int .i64 1, .int .i64 1, .int .i64 8] w2 fun e w' => e = .returned (.tuple #[]) ∧ WrS (n0 + 1) (stN s2 p.cl 1 1 8) w [(n0, .cells (pkC p) 41 (0, 0))] w' := wst_num p.cl 1 1 8 (Or.inl rfl) hp.out.cl HL2.out (by omega) w2 H2.out
  obtain ⟨s3, hs⟩ : ∃ s, s = stN s2 p.cl 1 1 8 := ⟨_, rfl⟩
  rw [← hs] at hN
  have HL3 : Hid (s3.1.length ≤ 2) := Lib.hid (by rw [hs]; exact stN_len _ _ _ _ _ HL2.out)
  have HS3 := Lib.hid hs
  have HN := Lib.hid hN
  clear hb hN hs HL2
  go_upto_region 4 with ((with_reducible refine HN.out.mono ?_); rintro e w3 ⟨rfl, hx⟩; have hb := hx.get (k := n0) List.mem_cons_self; have a0 : w3.cell? ⟨n0, 0, none⟩ = some (.int .i64 3) := (by rw [← hk]; exact cell_of_row w3 n0 0 _ _ _ hb); have H3 := Lib.hid hx; clear hx hb)
  clear HN H2 a1
  have hb := H3.out.get (k := n0) List.mem_cons_self
  have a2 : w3.cell? ⟨n0, 2, none⟩ = some (.int .i64 p.ep) := cell_of_row w3 n0 2 _ _ _ hb
  have hN : Calls Tryz.prog 28 #[.pointer (some ⟨n0 + 1, 0, none⟩), .int .i64 p.ep, .int .i64 4, .int .i64 0, .int .i64 9223372036854775807] w3 fun e w' => e = .returned (.tuple #[]) ∧ WrS (n0 + 1) (stN s3 p.ep 4 0 9223372036854775807) w [(n0, .cells (pkC p) 41 (0, 0))] w' := wst_num p.ep 4 0 9223372036854775807 (Or.inr (Or.inr (Or.inl rfl))) hp.out.ep HL3.out (by omega) w3 H3.out
  obtain ⟨s4, hs⟩ : ∃ s, s = stN s3 p.ep 4 0 9223372036854775807 := ⟨_, rfl⟩
  rw [← hs] at hN
  have HL4 : Hid (s4.1.length ≤ 6) := Lib.hid (by rw [hs]; exact stN_len _ _ _ _ _ HL3.out)
  have HS4 := Lib.hid hs
  have HN := Lib.hid hN
  clear hb hN hs HL3
  go_upto_region 5 with ((with_reducible refine HN.out.mono ?_); rintro e w4 ⟨rfl, hx⟩; have hb := hx.get (k := n0) List.mem_cons_self; have a0 : w4.cell? ⟨n0, 0, none⟩ = some (.int .i64 3) := (by rw [← hk]; exact cell_of_row w4 n0 0 _ _ _ hb); have H4 := Lib.hid hx; clear hx hb)
  clear HN H3 a2
  have hb := H4.out.get (k := n0) List.mem_cons_self
  have a3 : w4.cell? ⟨n0, 3, none⟩ = some (.int .i64 p.sq) := cell_of_row w4 n0 3 _ _ _ hb
  have hN : Calls Tryz.prog 28 #[.pointer (some ⟨n0 + 1, 0, none⟩), .int .i64 p.sq, .int .i64 8, .int .i64 0, .int .i64 9223372036854775807] w4 fun e w' => e = .returned (.tuple #[]) ∧ WrS (n0 + 1) (stN s4 p.sq 8 0 9223372036854775807) w [(n0, .cells (pkC p) 41 (0, 0))] w' := wst_num p.sq 8 0 9223372036854775807 (Or.inr (Or.inr (Or.inr rfl))) hp.out.sq HL4.out (by omega) w4 H4.out
  obtain ⟨s5, hs⟩ : ∃ s, s = stN s4 p.sq 8 0 9223372036854775807 := ⟨_, rfl⟩
  rw [← hs] at hN
  have HL5 : Hid (s5.1.length ≤ 14) := Lib.hid (by rw [hs]; exact stN_len _ _ _ _ _ HL4.out)
  have HS5 := Lib.hid hs
  have HN := Lib.hid hN
  clear hb hN hs HL4
  go_upto_region 17 with ((with_reducible refine HN.out.mono ?_); rintro e w5 ⟨rfl, hx⟩; have hb := hx.get (k := n0) List.mem_cons_self; have a0 : w5.cell? ⟨n0, 0, none⟩ = some (.int .i64 3) := (by rw [← hk]; exact cell_of_row w5 n0 0 _ _ _ hb); have H5 := Lib.hid hx; clear hx hb)
  clear HN H4 a3
  have hb := H5.out.get (k := n0) List.mem_cons_self
  have a4 : w5.cell? ⟨n0, 4, none⟩ = some (.int .i64 p.op) := cell_of_row w5 n0 4 _ _ _ hb
  have hN : Calls Tryz.prog 28 #[.pointer (some ⟨n0 + 1, 0, none⟩), .int .i64 p.op, .int .i64 1, .int .i64 0, .int .i64 9223372036854775807] w5 fun e w' => e = .returned (.tuple #[]) ∧ WrS (n0 + 1) (stN s5 p.op 1 0 9223372036854775807) w [(n0, .cells (pkC p) 41 (0, 0))] w' := wst_num p.op 1 0 9223372036854775807 (Or.inl rfl) hp.out.op HL5.out (by omega) w5 H5.out
  obtain ⟨s6, hs⟩ : ∃ s, s = stN s5 p.op 1 0 9223372036854775807 := ⟨_, rfl⟩
  rw [← hs] at hN
  have HL6 : Hid (s6.1.length ≤ 15) := Lib.hid (by rw [hs]; exact stN_len _ _ _ _ _ HL5.out)
  have HS6 := Lib.hid hs
  have HN := Lib.hid hN
  clear hb hN hs HL5
  go_upto_region 18 with ((with_reducible refine HN.out.mono ?_); rintro e w6 ⟨rfl, hx⟩; have hb := hx.get (k := n0) List.mem_cons_self; have a0 : w6.cell? ⟨n0, 0, none⟩ = some (.int .i64 3) := (by rw [← hk]; exact cell_of_row w6 n0 0 _ _ _ hb); have H6 := Lib.hid hx; clear hx hb)
  clear HN H5 a4
  have hb := H6.out.get (k := n0) List.mem_cons_self
  have a18 : w6.cell? ⟨n0, 18, none⟩ = some (.int .i64 p.ino) := cell_of_row w6 n0 18 _ _ _ hb
  have hN : Calls Tryz.prog 28 #[.pointer (some ⟨n0 + 1, 0, none⟩), .int .i64 p.ino, .int .i64 1, .int .i64 0, .int .i64 9223372036854775807] w6 fun e w' => e = .returned (.tuple #[]) ∧ WrS (n0 + 1) (stN s6 p.ino 1 0 9223372036854775807) w [(n0, .cells (pkC p) 41 (0, 0))] w' := wst_num p.ino 1 0 9223372036854775807 (Or.inl rfl) hp.out.ino HL6.out (by omega) w6 H6.out
  obtain ⟨s7, hs⟩ : ∃ s, s = stN s6 p.ino 1 0 9223372036854775807 := ⟨_, rfl⟩
  rw [← hs] at hN
  have HL7 : Hid (s7.1.length ≤ 16) := Lib.hid (by rw [hs]; exact stN_len _ _ _ _ _ HL6.out)
  have HS7 := Lib.hid hs
  have HN := Lib.hid hN
  clear hb hN hs HL6
  go_upto_region 19 with ((with_reducible refine HN.out.mono ?_); rintro e w7 ⟨rfl, hx⟩; have hb := hx.get (k := n0) List.mem_cons_self; have a0 : w7.cell? ⟨n0, 0, none⟩ = some (.int .i64 3) := (by rw [← hk]; exact cell_of_row w7 n0 0 _ _ _ hb); have H7 := Lib.hid hx; clear hx hb)
  clear HN H6 a18
  have hb := H7.out.get (k := n0) List.mem_cons_self
  have a11 : w7.cell? ⟨n0, 11, none⟩ = some (.string p.p1) := cell_of_row w7 n0 11 _ _ _ hb
  have hN : Calls Tryz.prog 29 #[.pointer (some ⟨n0 + 1, 0, none⟩), .string p.p1, .int .i64 1, .int .i64 100] w7 fun e w' => e = .returned (.tuple #[]) ∧ WrS (n0 + 1) (stT s7 p.p1 1 100) w [(n0, .cells (pkC p) 41 (0, 0))] w' := wst_text p.p1 1 100 (Or.inl rfl) (Nat.le_trans hp.out.p1 (by omega)) HL7.out (by omega) (noBytes_pk n0 p) w7 H7.out
  obtain ⟨s8, hs⟩ : ∃ s, s = stT s7 p.p1 1 100 := ⟨_, rfl⟩
  rw [← hs] at hN
  have HL8 : Hid (s8.1.length ≤ 1100017) := Lib.hid (by rw [hs]; exact stT_len _ _ _ _ HL7.out hp.out.p1)
  have HS8 := Lib.hid hs
  have HN := Lib.hid hN
  clear hb hN hs HL7
  go_upto_region 20 with ((with_reducible refine HN.out.mono ?_); rintro e w8 ⟨rfl, hx⟩; have hb := hx.get (k := n0) List.mem_cons_self; have a0 : w8.cell? ⟨n0, 0, none⟩ = some (.int .i64 3) := (by rw [← hk]; exact cell_of_row w8 n0 0 _ _ _ hb); have H8 := Lib.hid hx; clear hx hb)
  clear HN H7 a11
  have hb := H8.out.get (k := n0) List.mem_cons_self
  have a12 : w8.cell? ⟨n0, 12, none⟩ = some (.string p.p2) := cell_of_row w8 n0 12 _ _ _ hb
  have hN : Calls Tryz.prog 29 #[.pointer (some ⟨n0 + 1, 0, none⟩), .string p.p2, .int .i64 1, .int .i64 100] w8 fun e w' => e = .returned (.tuple #[]) ∧ WrS (n0 + 1) (stT s8 p.p2 1 100) w [(n0, .cells (pkC p) 41 (0, 0))] w' := wst_text p.p2 1 100 (Or.inl rfl) (Nat.le_trans hp.out.p2 (by omega)) HL8.out (by omega) (noBytes_pk n0 p) w8 H8.out
  obtain ⟨s9, hs⟩ : ∃ s, s = stT s8 p.p2 1 100 := ⟨_, rfl⟩
  rw [← hs] at hN
  have HL9 : Hid (s9.1.length ≤ 2200018) := Lib.hid (by rw [hs]; exact stT_len _ _ _ _ HL8.out hp.out.p2)
  have HS9 := Lib.hid hs
  have HN := Lib.hid hN
  clear hb hN hs HL8
  go_upto_region 21 with ((with_reducible refine HN.out.mono ?_); rintro e w9 ⟨rfl, hx⟩; have hb := hx.get (k := n0) List.mem_cons_self; have a0 : w9.cell? ⟨n0, 0, none⟩ = some (.int .i64 3) := (by rw [← hk]; exact cell_of_row w9 n0 0 _ _ _ hb); have H9 := Lib.hid hx; clear hx hb)
  clear HN H8 a12
  have hb := H9.out.get (k := n0) List.mem_cons_self
  have a13 : w9.cell? ⟨n0, 13, none⟩ = some (.int .i64 p.fl) := cell_of_row w9 n0 13 _ _ _ hb
  have hN : Calls Tryz.prog 28 #[.pointer (some ⟨n0 + 1, 0, none⟩), .int .i64 p.fl, .int .i64 1, .int .i64 0, .int .i64 9223372036854775807] w9 fun e w' => e = .returned (.tuple #[]) ∧ WrS (n0 + 1) (stN s9 p.fl 1 0 9223372036854775807) w [(n0, .cells (pkC p) 41 (0, 0))] w' := wst_num p.fl 1 0 9223372036854775807 (Or.inl rfl) hp.out.fl HL9.out (by omega) w9 H9.out
  obtain ⟨s10, hs⟩ : ∃ s, s = stN s9 p.fl 1 0 9223372036854775807 := ⟨_, rfl⟩
  rw [← hs] at hN
  have HL10 : Hid (s10.1.length ≤ 2200019) := Lib.hid (by rw [hs]; exact stN_len _ _ _ _ _ HL9.out)
  have HS10 := Lib.hid hs
  have HN := Lib.hid hN
  clear hb hN hs HL9
  go_upto_region 22 with ((with_reducible refine HN.out.mono ?_); rintro e w10 ⟨rfl, hx⟩; have hb := hx.get (k := n0) List.mem_cons_self; have a0 : w10.cell? ⟨n0, 0, none⟩ = some (.int .i64 3) := (by rw [← hk]; exact cell_of_row w10 n0 0 _ _ _ hb); have H10 := Lib.hid hx; clear hx hb)
  clear HN H9 a13
  have hb := H10.out.get (k := n0) List.mem_cons_self
  have a16 : w10.cell? ⟨n0, 16, none⟩ = some (.int .i64 p.cn) := cell_of_row w10 n0 16 _ _ _ hb
  have hN : Calls Tryz.prog 28 #[.pointer (some ⟨n0 + 1, 0, none⟩), .int .i64 p.cn, .int .i64 4, .int .i64 0, .int .i64 9223372036854775807] w10 fun e w' => e = .returned (.tuple #[]) ∧ WrS (n0 + 1) (stN s10 p.cn 4 0 9223372036854775807) w [(n0, .cells (pkC p) 41 (0, 0))] w' := wst_num p.cn 4 0 9223372036854775807 (Or.inr (Or.inr (Or.inl rfl))) hp.out.cn HL10.out (by omega) w10 H10.out
  obtain ⟨s11, hs⟩ : ∃ s, s = stN s10 p.cn 4 0 9223372036854775807 := ⟨_, rfl⟩
  rw [← hs] at hN
  have HL11 : Hid (s11.1.length ≤ 2200023) := Lib.hid (by rw [hs]; exact stN_len _ _ _ _ _ HL10.out)
  have HS11 := Lib.hid hs
  have HN := Lib.hid hN
  clear hb hN hs HL10
  go_upto_region 46 with ((with_reducible refine HN.out.mono ?_); rintro e w11 ⟨rfl, hx⟩; have hb := hx.get (k := n0) List.mem_cons_self; have a0 : w11.cell? ⟨n0, 0, none⟩ = some (.int .i64 3) := (by rw [← hk]; exact cell_of_row w11 n0 0 _ _ _ hb); have H11 := Lib.hid hx; clear hx hb)
  clear HN H10 a16
  have hb := H11.out.get (k := n0) List.mem_cons_self
  have hr0 := row_rangeK hb
  have HC := Lib.hid (HO.out w11 H11.out.bl)
  clear hb
  go_upto_region 47 with (first | (refine wpList_load_mid rfl 41 _ rfl n0 0 rfl (pkC p).toList _ hr0 Tryz.underlying41 rfl (pk_len p) ?_) | ((with_reducible refine HC.out.mono ?_); rintro e wz ⟨r, rfl, h1, h2⟩; have HR := Lib.hid h1; have HZ := Lib.hid (H11.out.below h2); clear h1 h2))
  obtain ⟨v, g1, g2, g3, g4, g5, g6⟩ := HZ.out
  have e0 : wz.cell? ⟨n0 + 1, 0, none⟩ = some v := cell_of_row wz (n0 + 1) 0 _ _ _ g1
  have e1 : wz.cell? ⟨n0 + 1, 1, none⟩ = some (.bool s11.2) := cell_of_row wz (n0 + 1) 1 _ _ _ g1
  obtain ⟨A2, c2, hv⟩ := rv_slice g2
  subst hv
  have HE : Hid (s11 = in3 p) := Lib.hid (by have e := HS2.out; subst e; have e := HS3.out; subst e; have e := HS4.out; subst e; have e := HS5.out; subst e; have e := HS6.out; subst e; have e := HS7.out; subst e; have e := HS8.out; subst e; have e := HS9.out; subst e; have e := HS10.out; subst e; have e := HS11.out; subst e; rfl)
  have HOw := Lib.hid g2
  have HBl := Lib.hid g5
  clear g1 g2 g3 g4 g5 g6 HS2 HS3 HS4 HS5 HS6 HS7 HS8 HS9 HS10 HS11 HC HO H11 HZ
  obtain ⟨o, ho⟩ : ∃ o, o = s11.2 := ⟨_, rfl⟩
  rw [← ho] at e1
  have Ho := Lib.hid ho
  clear ho hr0
  rcases bdic o with h | h
  · subst h
    go_quiet (fail)
    go_wp2_with fail
    go_ret2
    refine ⟨.slice A2 s11.1.length c2, r, ?_, HR.out, ?_, below_drewN HBl.out _⟩
    · rw [← HE.out, ← Ho.out]; rfl
    · rw [← HE.out]; exact HOw.out.keep (below_drewN (Below.refl _ _) _)
  · subst h
    go_quiet (fail)
    go_wp2_with fail
    go_ret2
    refine ⟨.slice A2 s11.1.length c2, r, ?_, HR.out, ?_, below_drewN HBl.out _⟩
    · rw [← HE.out, ← Ho.out]; rfl
    · rw [← HE.out]; exact HOw.out.keep (below_drewN (Below.refl _ _) _)
set_option maxHeartbeats 16000000 in
set_option maxRecDepth 100000 in
theorem inner4_any (p : Pk) (hk : p.kd = 4) (A : Option Addr) (c : Nat) (L : List (List UInt8)) (hnv : p.nv = .slice A L.length c) (hL : nmB L ≤ 1100000) (w : World) (hS : StrR w A L) (hpk : PkW p) :
    Calls Tryz.prog 16 #[.agg (pkC p)] w (InP p (oth4 p) (in4 p L) w) := by
  have HO := Lib.hid (fun W (hW : Below w.heap.size w W) => others4_any p hk A c L hnv (Nat.le_trans (nmB_len L) (by omega)) W (hS.keep hW) hpk)
  have hp := Lib.hid hpk
  have HNm := Lib.hid hL
  have HSt := Lib.hid hS
  obtain ⟨n, hn⟩ : ∃ n, n = L.length := ⟨_, rfl⟩
  have hn6 : n ≤ 1100000 := by rw [hn]; exact Nat.le_trans (nmB_len L) hL
  have HnL : Hid (L.length = n) := Lib.hid hn.symm
  have Hnv : Hid (p.nv = .slice A n c) := Lib.hid (by rw [hn]; exact hnv)
  clear hn hnv hL hS hpk
  go_enter Tryz.func16, Tryz.ntmps16
  go_upto_region 2 with fail
  obtain ⟨w1, hw⟩ : ∃ u, u = (w.alloc (.cells (pkC p) 41)).alloc (.cells #[.slice none 0 0, .bool false] 74) := ⟨_, rfl⟩
  obtain ⟨n0, hn⟩ : ∃ u, u = w.heap.size := ⟨_, rfl⟩
  have hH : WrS (n0 + 1) ([], false) w [(n0, .cells (pkC p) 41 (0, 0))] w1 := by
    rw [hw, hn]
    exact wr_new p w
  rw [← hw, ← hn]
  have H1 := Lib.hid hH
  have Hn := Lib.hid hn
  have HL1 : Hid ((([], false) : Sw).1.length ≤ 0) := Lib.hid (Nat.le_refl _)
  clear hw hn hH
  have hb := H1.out.get (k := n0) List.mem_cons_self
  have a0 : w1.cell? ⟨n0, 0, none⟩ = some (.int .i64 4) := (by rw [← hk]; exact cell_of_row w1 n0 0 _ _ _ hb)
  have hN : Calls Tryz.prog 28 #[.pointer (some ⟨n0 + 1, 0, none⟩), .int .i64 4, .int .i64 1, .int .i64 1, .int .i64 5] w1 fun e w' => e = .returned (.tuple #[]) ∧ WrS (n0 + 1) (stN ([], false) 4 1 1 5) w [(n0, .cells (pkC p) 41 (0, 0))] w' := wst_num 4 1 1 5 (Or.inl rfl) (small_I64 (by decide)) HL1.out (by omega) w1 H1.out
  obtain ⟨s2, hs⟩ : ∃ s, s = stN ([], false) 4 1 1 5 := ⟨_, rfl⟩
  rw [← hs] at hN
  have HL2 : Hid (s2.1.length ≤ 1) := Lib.hid (by rw [hs]; exact stN_len _ _ _ _ _ HL1.out)
  have HS2 := Lib.hid hs
  have HN := Lib.hid hN
  clear hb hN hs HL1
  go_upto_region 3 with ((with_reducible refine HN.out.mono ?_); rintro e w2 ⟨rfl, hx⟩; have hb := hx.get (k := n0) List.mem_cons_self; have a0 : w2.cell? ⟨n0, 0, none⟩ = some (.int .i64 4) := (by rw [← hk]; exact cell_of_row w2 n0 0 _ _ _ hb); have H2 := Lib.hid hx; clear hx hb)
  clear HN H1 a0
  have hb := H2.out.get (k := n0) List.mem_cons_self
  have a1 : w2.cell? ⟨n0, 1, none⟩ = some (.int .i64 p.cl) := cell_of_row w2 n0 1 _ _ _ hb
  have hN : Calls Tryz.prog 28 #[.pointer (some ⟨n0 + 1, 0, none⟩), .int .i64 p.cl, .int .i64 1, .int .i64 1, .int .i64 8] w2 fun e w' => e = .returned (.tuple #[]) ∧ WrS (n0 + 1) (stN s2 p.cl 1 1 8) w [(n0, .cells (pkC p) 41 (0, 0))] w' := wst_num p.cl 1 1 8 (Or.inl rfl) hp.out.cl HL2.out (by omega) w2 H2.out
  obtain ⟨s3, hs⟩ : ∃ s, s = stN s2 p.cl 1 1 8 := ⟨_, rfl⟩
  rw [← hs] at hN
  have HL3 : Hid (s3.1.length ≤ 2) := Lib.hid (by rw [hs]; exact stN_len _ _ _ _ _ HL2.out)
  have HS3 := Lib.hid hs
  have HN := Lib.hid hN
  clear hb hN hs HL2
  go_upto_region 4 with ((with_reducible refine HN.out.mono ?_); rintro e w3 ⟨rfl, hx⟩; have hb := hx.get (k := n0) List.mem_cons_self; have a0 : w3.cell? ⟨n0, 0, none⟩ = some (.int .i64 4) := (by rw [← hk]; exact cell_of_row w3 n0 0 _ _ _ hb); have H3 := Lib.hid hx; clear hx hb)
  clear HN H2 a1
  have hb := H3.out.get (k := n0) List.mem_cons_self
  have a2 : w3.cell? ⟨n0, 2, none⟩ = some (.int .i64 p.ep) := cell_of_row w3 n0 2 _ _ _ hb
  have hN : Calls Tryz.prog 28 #[.pointer (some ⟨n0 + 1, 0, none⟩), .int .i64 p.ep, .int .i64 4, .int .i64 0, .int .i64 9223372036854775807] w3 fun e w' => e = .returned (.tuple #[]) ∧ WrS (n0 + 1) (stN s3 p.ep 4 0 9223372036854775807) w [(n0, .cells (pkC p) 41 (0, 0))] w' := wst_num p.ep 4 0 9223372036854775807 (Or.inr (Or.inr (Or.inl rfl))) hp.out.ep HL3.out (by omega) w3 H3.out
  obtain ⟨s4, hs⟩ : ∃ s, s = stN s3 p.ep 4 0 9223372036854775807 := ⟨_, rfl⟩
  rw [← hs] at hN
  have HL4 : Hid (s4.1.length ≤ 6) := Lib.hid (by rw [hs]; exact stN_len _ _ _ _ _ HL3.out)
  have HS4 := Lib.hid hs
  have HN := Lib.hid hN
  clear hb hN hs HL3
  go_upto_region 5 with ((with_reducible refine HN.out.mono ?_); rintro e w4 ⟨rfl, hx⟩; have hb := hx.get (k := n0) List.mem_cons_self; have a0 : w4.cell? ⟨n0, 0, none⟩ = some (.int .i64 4) := (by rw [← hk]; exact cell_of_row w4 n0 0 _ _ _ hb); have H4 := Lib.hid hx; clear hx hb)
  clear HN H3 a2
  have hb := H4.out.get (k := n0) List.mem_cons_self
  have a3 : w4.cell? ⟨n0, 3, none⟩ = some (.int .i64 p.sq) := cell_of_row w4 n0 3 _ _ _ hb
  have hN : Calls Tryz.prog 28 #[.pointer (some ⟨n0 + 1, 0, none⟩), .int .i64 p.sq, .int .i64 8, .int .i64 0, .int .i64 9223372036854775807] w4 fun e w' => e = .returned (.tuple #[]) ∧ WrS (n0 + 1) (stN s4 p.sq 8 0 9223372036854775807) w [(n0, .cells (pkC p) 41 (0, 0))] w' := wst_num p.sq 8 0 9223372036854775807 (Or.inr (Or.inr (Or.inr rfl))) hp.out.sq HL4.out (by omega) w4 H4.out
  obtain ⟨s5, hs⟩ : ∃ s, s = stN s4 p.sq 8 0 9223372036854775807 := ⟨_, rfl⟩
  rw [← hs] at hN
  have HL5 : Hid (s5.1.length ≤ 14) := Lib.hid (by rw [hs]; exact stN_len _ _ _ _ _ HL4.out)
  have HS5 := Lib.hid hs
  have HN := Lib.hid hN
  clear hb hN hs HL4
  go_upto_region 24 with ((with_reducible refine HN.out.mono ?_); rintro e w5 ⟨rfl, hx⟩; have hb := hx.get (k := n0) List.mem_cons_self; have a0 : w5.cell? ⟨n0, 0, none⟩ = some (.int .i64 4) := (by rw [← hk]; exact cell_of_row w5 n0 0 _ _ _ hb); have H5 := Lib.hid hx; clear hx hb)
  clear HN H4 a3
  have hb := H5.out.get (k := n0) List.mem_cons_self
  have a4 : w5.cell? ⟨n0, 4, none⟩ = some (.int .i64 p.op) := cell_of_row w5 n0 4 _ _ _ hb
  have hN : Calls Tryz.prog 28 #[.pointer (some ⟨n0 + 1, 0, none⟩), .int .i64 p.op, .int .i64 1, .int .i64 0, .int .i64 9223372036854775807] w5 fun e w' => e = .returned (.tuple #[]) ∧ WrS (n0 + 1) (stN s5 p.op 1 0 9223372036854775807) w [(n0, .cells (pkC p) 41 (0, 0))] w' := wst_num p.op 1 0 9223372036854775807 (Or.inl rfl) hp.out.op HL5.out (by omega) w5 H5.out
  obtain ⟨s6, hs⟩ : ∃ s, s = stN s5 p.op 1 0 9223372036854775807 := ⟨_, rfl⟩
  rw [← hs] at hN
  have HL6 : Hid (s6.1.length ≤ 15) := Lib.hid (by rw [hs]; exact stN_len _ _ _ _ _ HL5.out)
  have HS6 := Lib.hid hs
  have HN := Lib.hid hN
  clear hb hN hs HL5
  go_upto_region 25 with ((with_reducible refine HN.out.mono ?_); rintro e w6 ⟨rfl, hx⟩; have hb := hx.get (k := n0) List.mem_cons_self; have a0 : w6.cell? ⟨n0, 0, none⟩ = some (.int .i64 4) := (by rw [← hk]; exact cell_of_row w6 n0 0 _ _ _ hb); have H6 := Lib.hid hx; clear hx hb)
  clear HN H5 a4
  have hb := H6.out.get (k := n0) List.mem_cons_self
  have a19 : w6.cell? ⟨n0, 19, none⟩ = some (.int .i64 p.er) := cell_of_row w6 n0 19 _ _ _ hb
  have hN : Calls Tryz.prog 28 #[.pointer (some ⟨n0 + 1, 0, none⟩), .int .i64 p.er, .int .i64 1, .int .i64 0, .int .i64 9223372036854775807] w6 fun e w' => e = .returned (.tuple #[]) ∧ WrS (n0 + 1) (stN s6 p.er 1 0 9223372036854775807) w [(n0, .cells (pkC p) 41 (0, 0))] w' := wst_num p.er 1 0 9223372036854775807 (Or.inl rfl) hp.out.er HL6.out (by omega) w6 H6.out
  obtain ⟨s7, hs⟩ : ∃ s, s = stN s6 p.er 1 0 9223372036854775807 := ⟨_, rfl⟩
  rw [← hs] at hN
  have HL7 : Hid (s7.1.length ≤ 16) := Lib.hid (by rw [hs]; exact stN_len _ _ _ _ _ HL6.out)
  have HS7 := Lib.hid hs
  have HN := Lib.hid hN
  clear hb hN hs HL6
  go_upto_region 26 with ((with_reducible refine HN.out.mono ?_); rintro e w7 ⟨rfl, hx⟩; have hb := hx.get (k := n0) List.mem_cons_self; have a0 : w7.cell? ⟨n0, 0, none⟩ = some (.int .i64 4) := (by rw [← hk]; exact cell_of_row w7 n0 0 _ _ _ hb); have H7 := Lib.hid hx; clear hx hb)
  clear HN H6 a19
  have hb := H7.out.get (k := n0) List.mem_cons_self
  have a18 : w7.cell? ⟨n0, 18, none⟩ = some (.int .i64 p.ino) := cell_of_row w7 n0 18 _ _ _ hb
  have hN : Calls Tryz.prog 28 #[.pointer (some ⟨n0 + 1, 0, none⟩), .int .i64 p.ino, .int .i64 1, .int .i64 0, .int .i64 9223372036854775807] w7 fun e w' => e = .returned (.tuple #[]) ∧ WrS (n0 + 1) (stN s7 p.ino 1 0 9223372036854775807) w [(n0, .cells (pkC p) 41 (0, 0))] w' := wst_num p.ino 1 0 9223372036854775807 (Or.inl rfl) hp.out.ino HL7.out (by omega) w7 H7.out
  obtain ⟨s8, hs⟩ : ∃ s, s = stN s7 p.ino 1 0 9223372036854775807 := ⟨_, rfl⟩
  rw [← hs] at hN
  have HL8 : Hid (s8.1.length ≤ 17) := Lib.hid (by rw [hs]; exact stN_len _ _ _ _ _ HL7.out)
  have HS8 := Lib.hid hs
  have HN := Lib.hid hN
  clear hb hN hs HL7
  go_upto_region 27 with ((with_reducible refine HN.out.mono ?_); rintro e w8 ⟨rfl, hx⟩; have hb := hx.get (k := n0) List.mem_cons_self; have a0 : w8.cell? ⟨n0, 0, none⟩ = some (.int .i64 4) := (by rw [← hk]; exact cell_of_row w8 n0 0 _ _ _ hb); have H8 := Lib.hid hx; clear hx hb)
  clear HN H7 a18
  have hb := H8.out.get (k := n0) List.mem_cons_self
  have a27 : w8.cell? ⟨n0, 27, none⟩ = some (.int .i64 p.wr) := cell_of_row w8 n0 27 _ _ _ hb
  have hN : Calls Tryz.prog 28 #[.pointer (some ⟨n0 + 1, 0, none⟩), .int .i64 p.wr, .int .i64 8, .int .i64 0, .int .i64 9223372036854775807] w8 fun e w' => e = .returned (.tuple #[]) ∧ WrS (n0 + 1) (stN s8 p.wr 8 0 9223372036854775807) w [(n0, .cells (pkC p) 41 (0, 0))] w' := wst_num p.wr 8 0 9223372036854775807 (Or.inr (Or.inr (Or.inr rfl))) hp.out.wr HL8.out (by omega) w8 H8.out
  obtain ⟨s9, hs⟩ : ∃ s, s = stN s8 p.wr 8 0 9223372036854775807 := ⟨_, rfl⟩
  rw [← hs] at hN
  have HL9 : Hid (s9.1.length ≤ 25) := Lib.hid (by rw [hs]; exact stN_len _ _ _ _ _ HL8.out)
  have HS9 := Lib.hid hs
  have HN := Lib.hid hN
  clear hb hN hs HL8
  go_upto_region 28 with ((with_reducible refine HN.out.mono ?_); rintro e w9 ⟨rfl, hx⟩; have hb := hx.get (k := n0) List.mem_cons_self; have a0 : w9.cell? ⟨n0, 0, none⟩ = some (.int .i64 4) := (by rw [← hk]; exact cell_of_row w9 n0 0 _ _ _ hb); have H9 := Lib.hid hx; clear hx hb)
  clear HN H8 a27
  have hb := H9.out.get (k := n0) List.mem_cons_self
  have a5 : w9.cell? ⟨n0, 5, none⟩ = some (.int .i64 p.at_) := cell_of_row w9 n0 5 _ _ _ hb
  have hN : Calls Tryz.prog 28 #[.pointer (some ⟨n0 + 1, 0, none⟩), .int .i64 p.at_, .int .i64 4, .int .i64 0, .int .i64 9223372036854775807] w9 fun e w' => e = .returned (.tuple #[]) ∧ WrS (n0 + 1) (stN s9 p.at_ 4 0 9223372036854775807) w [(n0, .cells (pkC p) 41 (0, 0))] w' := wst_num p.at_ 4 0 9223372036854775807 (Or.inr (Or.inr (Or.inl rfl))) hp.out.at_ HL9.out (by omega) w9 H9.out
  obtain ⟨s10, hs⟩ : ∃ s, s = stN s9 p.at_ 4 0 9223372036854775807 := ⟨_, rfl⟩
  rw [← hs] at hN
  have HL10 : Hid (s10.1.length ≤ 29) := Lib.hid (by rw [hs]; exact stN_len _ _ _ _ _ HL9.out)
  have HS10 := Lib.hid hs
  have HN := Lib.hid hN
  clear hb hN hs HL9
  go_upto_region 29 with ((with_reducible refine HN.out.mono ?_); rintro e w10 ⟨rfl, hx⟩; have hb := hx.get (k := n0) List.mem_cons_self; have a0 : w10.cell? ⟨n0, 0, none⟩ = some (.int .i64 4) := (by rw [← hk]; exact cell_of_row w10 n0 0 _ _ _ hb); have H10 := Lib.hid hx; clear hx hb)
  clear HN H9 a5
  have hb := H10.out.get (k := n0) List.mem_cons_self
  have a24 : w10.cell? ⟨n0, 24, none⟩ = some (.int .i64 p.ik) := cell_of_row w10 n0 24 _ _ _ hb
  have hN : Calls Tryz.prog 28 #[.pointer (some ⟨n0 + 1, 0, none⟩), .int .i64 p.ik, .int .i64 1, .int .i64 0, .int .i64 9223372036854775807] w10 fun e w' => e = .returned (.tuple #[]) ∧ WrS (n0 + 1) (stN s10 p.ik 1 0 9223372036854775807) w [(n0, .cells (pkC p) 41 (0, 0))] w' := wst_num p.ik 1 0 9223372036854775807 (Or.inl rfl) hp.out.ik HL10.out (by omega) w10 H10.out
  obtain ⟨s11, hs⟩ : ∃ s, s = stN s10 p.ik 1 0 9223372036854775807 := ⟨_, rfl⟩
  rw [← hs] at hN
  have HL11 : Hid (s11.1.length ≤ 30) := Lib.hid (by rw [hs]; exact stN_len _ _ _ _ _ HL10.out)
  have HS11 := Lib.hid hs
  have HN := Lib.hid hN
  clear hb hN hs HL10
  go_upto_region 30 with ((with_reducible refine HN.out.mono ?_); rintro e w11 ⟨rfl, hx⟩; have hb := hx.get (k := n0) List.mem_cons_self; have a0 : w11.cell? ⟨n0, 0, none⟩ = some (.int .i64 4) := (by rw [← hk]; exact cell_of_row w11 n0 0 _ _ _ hb); have H11 := Lib.hid hx; clear hx hb)
  clear HN H10 a24
  have hb := H11.out.get (k := n0) List.mem_cons_self
  have a25 : w11.cell? ⟨n0, 25, none⟩ = some (.int .i64 p.il) := cell_of_row w11 n0 25 _ _ _ hb
  have hN : Calls Tryz.prog 28 #[.pointer (some ⟨n0 + 1, 0, none⟩), .int .i64 p.il, .int .i64 1, .int .i64 0, .int .i64 9223372036854775807] w11 fun e w' => e = .returned (.tuple #[]) ∧ WrS (n0 + 1) (stN s11 p.il 1 0 9223372036854775807) w [(n0, .cells (pkC p) 41 (0, 0))] w' := wst_num p.il 1 0 9223372036854775807 (Or.inl rfl) hp.out.il HL11.out (by omega) w11 H11.out
  obtain ⟨s12, hs⟩ : ∃ s, s = stN s11 p.il 1 0 9223372036854775807 := ⟨_, rfl⟩
  rw [← hs] at hN
  have HL12 : Hid (s12.1.length ≤ 31) := Lib.hid (by rw [hs]; exact stN_len _ _ _ _ _ HL11.out)
  have HS12 := Lib.hid hs
  have HN := Lib.hid hN
  clear hb hN hs HL11
  go_upto_region 31 with ((with_reducible refine HN.out.mono ?_); rintro e w12 ⟨rfl, hx⟩; have hb := hx.get (k := n0) List.mem_cons_self; have a0 : w12.cell? ⟨n0, 0, none⟩ = some (.int .i64 4) := (by rw [← hk]; exact cell_of_row w12 n0 0 _ _ _ hb); have H12 := Lib.hid hx; clear hx hb)
  clear HN H11 a25
  have hb := H12.out.get (k := n0) List.mem_cons_self
  have a26 : w12.cell? ⟨n0, 26, none⟩ = some (.int .i64 p.isz) := cell_of_row w12 n0 26 _ _ _ hb
  have hN : Calls Tryz.prog 28 #[.pointer (some ⟨n0 + 1, 0, none⟩), .int .i64 p.isz, .int .i64 2, .int .i64 0, .int .i64 9223372036854775807] w12 fun e w' => e = .returned (.tuple #[]) ∧ WrS (n0 + 1) (stN s12 p.isz 2 0 9223372036854775807) w [(n0, .cells (pkC p) 41 (0, 0))] w' := wst_num p.isz 2 0 9223372036854775807 (Or.inr (Or.inl rfl)) hp.out.isz HL12.out (by omega) w12 H12.out
  obtain ⟨s13, hs⟩ : ∃ s, s = stN s12 p.isz 2 0 9223372036854775807 := ⟨_, rfl⟩
  rw [← hs] at hN
  have HL13 : Hid (s13.1.length ≤ 33) := Lib.hid (by rw [hs]; exact stN_len _ _ _ _ _ HL12.out)
  have HS13 := Lib.hid hs
  have HN := Lib.hid hN
  clear hb hN hs HL12
  go_upto_region 32 with ((with_reducible refine HN.out.mono ?_); rintro e w13 ⟨rfl, hx⟩; have hb := hx.get (k := n0) List.mem_cons_self; have a0 : w13.cell? ⟨n0, 0, none⟩ = some (.int .i64 4) := (by rw [← hk]; exact cell_of_row w13 n0 0 _ _ _ hb); have H13 := Lib.hid hx; clear hx hb)
  clear HN H12 a26
  have hb := H13.out.get (k := n0) List.mem_cons_self
  have a28 : w13.cell? ⟨n0, 28, none⟩ = some (.int .i64 p.nk) := cell_of_row w13 n0 28 _ _ _ hb
  have hN : Calls Tryz.prog 28 #[.pointer (some ⟨n0 + 1, 0, none⟩), .int .i64 p.nk, .int .i64 1, .int .i64 0, .int .i64 9223372036854775807] w13 fun e w' => e = .returned (.tuple #[]) ∧ WrS (n0 + 1) (stN s13 p.nk 1 0 9223372036854775807) w [(n0, .cells (pkC p) 41 (0, 0))] w' := wst_num p.nk 1 0 9223372036854775807 (Or.inl rfl) hp.out.nk HL13.out (by omega) w13 H13.out
  obtain ⟨s14, hs⟩ : ∃ s, s = stN s13 p.nk 1 0 9223372036854775807 := ⟨_, rfl⟩
  rw [← hs] at hN
  have HL14 : Hid (s14.1.length ≤ 34) := Lib.hid (by rw [hs]; exact stN_len _ _ _ _ _ HL13.out)
  have HS14 := Lib.hid hs
  have HN := Lib.hid hN
  clear hb hN hs HL13
  go_upto_region 33 with ((with_reducible refine HN.out.mono ?_); rintro e w14 ⟨rfl, hx⟩; have hb := hx.get (k := n0) List.mem_cons_self; have a0 : w14.cell? ⟨n0, 0, none⟩ = some (.int .i64 4) := (by rw [← hk]; exact cell_of_row w14 n0 0 _ _ _ hb); have H14 := Lib.hid hx; clear hx hb)
  clear HN H13 a28
  have hb := H14.out.get (k := n0) List.mem_cons_self
  have a29 : w14.cell? ⟨n0, 29, none⟩ = some (.int .i64 p.nl) := cell_of_row w14 n0 29 _ _ _ hb
  have hN : Calls Tryz.prog 28 #[.pointer (some ⟨n0 + 1, 0, none⟩), .int .i64 p.nl, .int .i64 1, .int .i64 0, .int .i64 9223372036854775807] w14 fun e w' => e = .returned (.tuple #[]) ∧ WrS (n0 + 1) (stN s14 p.nl 1 0 9223372036854775807) w [(n0, .cells (pkC p) 41 (0, 0))] w' := wst_num p.nl 1 0 9223372036854775807 (Or.inl rfl) hp.out.nl HL14.out (by omega) w14 H14.out
  obtain ⟨s15, hs⟩ : ∃ s, s = stN s14 p.nl 1 0 9223372036854775807 := ⟨_, rfl⟩
  rw [← hs] at hN
  have HL15 : Hid (s15.1.length ≤ 35) := Lib.hid (by rw [hs]; exact stN_len _ _ _ _ _ HL14.out)
  have HS15 := Lib.hid hs
  have HN := Lib.hid hN
  clear hb hN hs HL14
  go_upto_region 34 with ((with_reducible refine HN.out.mono ?_); rintro e w15 ⟨rfl, hx⟩; have hb := hx.get (k := n0) List.mem_cons_self; have a0 : w15.cell? ⟨n0, 0, none⟩ = some (.int .i64 4) := (by rw [← hk]; exact cell_of_row w15 n0 0 _ _ _ hb); have H15 := Lib.hid hx; clear hx hb)
  clear HN H14 a29
  have hb := H15.out.get (k := n0) List.mem_cons_self
  have a30 : w15.cell? ⟨n0, 30, none⟩ = some (.int .i64 p.ns) := cell_of_row w15 n0 30 _ _ _ hb
  have hN : Calls Tryz.prog 28 #[.pointer (some ⟨n0 + 1, 0, none⟩), .int .i64 p.ns, .int .i64 2, .int .i64 0, .int .i64 9223372036854775807] w15 fun e w' => e = .returned (.tuple #[]) ∧ WrS (n0 + 1) (stN s15 p.ns 2 0 9223372036854775807) w [(n0, .cells (pkC p) 41 (0, 0))] w' := wst_num p.ns 2 0 9223372036854775807 (Or.inr (Or.inl rfl)) hp.out.ns HL15.out (by omega) w15 H15.out
  obtain ⟨s16, hs⟩ : ∃ s, s = stN s15 p.ns 2 0 9223372036854775807 := ⟨_, rfl⟩
  rw [← hs] at hN
  have HL16 : Hid (s16.1.length ≤ 37) := Lib.hid (by rw [hs]; exact stN_len _ _ _ _ _ HL15.out)
  have HS16 := Lib.hid hs
  have HN := Lib.hid hN
  clear hb hN hs HL15
  go_upto_region 36 with ((with_reducible refine HN.out.mono ?_); rintro e w16 ⟨rfl, hx⟩; have hb := hx.get (k := n0) List.mem_cons_self; have a0 : w16.cell? ⟨n0, 0, none⟩ = some (.int .i64 4) := (by rw [← hk]; exact cell_of_row w16 n0 0 _ _ _ hb); have H16 := Lib.hid hx; clear hx hb)
  clear HN H15 a30
  have HE4 : Hid (s16 = in4a p) := Lib.hid (by have e := HS2.out; subst e; have e := HS3.out; subst e; have e := HS4.out; subst e; have e := HS5.out; subst e; have e := HS6.out; subst e; have e := HS7.out; subst e; have e := HS8.out; subst e; have e := HS9.out; subst e; have e := HS10.out; subst e; have e := HS11.out; subst e; have e := HS12.out; subst e; have e := HS13.out; subst e; have e := HS14.out; subst e; have e := HS15.out; subst e; have e := HS16.out; subst e; rfl)
  clear HS2 HS3 HS4 HS5 HS6 HS7 HS8 HS9 HS10 HS11 HS12 HS13 HS14 HS15 HS16 a0
  go_loopw [5] (fun z wr => ∃ i : Nat, z = .int .i64 i ∧ i ≤ 4 ∧ Hid (WrS (n0 + 1) (inB p i s16) w [(n0, .cells (pkC p) 41 (0, 0))] wr)) (fun z _ => 4 - (intOf z).toNat)
  case atStart => exact ⟨0, rfl, by omega, H16⟩
  case round =>
    obtain ⟨i, rfl, hi4, HR⟩ := hrel
    by_cases hlt : i < 4
    · have h1 : (i : Int) < 4 := by omega
      have h0 : (0 : Int) ≤ i := by omega
      have hb := HR.out.get (k := n0) List.mem_cons_self
      have cB : wr.cell? ⟨n0, 31 + i, none⟩ = some (.int .i64 (bAt p i)) := (cell_of_row wr n0 (31 + i) _ _ _ hb).trans (pk_blk p hlt)
      have hN : Calls Tryz.prog 28 #[.pointer (some ⟨n0 + 1, 0, none⟩), .int .i64 (bAt p i), .int .i64 1, .int .i64 0, .int .i64 9223372036854775807] wr fun e w' => e = .returned (.tuple #[]) ∧ WrS (n0 + 1) (inB p (i + 1) s16) w [(n0, .cells (pkC p) 41 (0, 0))] w' := wst_num (bAt p i) 1 0 9223372036854775807 (Or.inl rfl) (hp.out.bAt hlt) (inB_len p s16 HL16.out i) (by omega) wr HR.out
      have HN := Lib.hid hN
      clear hN hb hlt
      go_wp2_with ((with_reducible refine HN.out.mono ?_); rintro e wm ⟨rfl, hx⟩; have Hm := Lib.hid hx; clear hx)
      go_roundw
      case rel => exact ⟨i + 1, by go_num, by omega, Hm⟩
      case measure => simp [intOf]; omega
    · obtain rfl : i = 4 := by omega
      clear hlt hi4
      have HLb := Lib.hid (inB_len p s16 HL16.out 4)
      have hb := HR.out.get (k := n0) List.mem_cons_self
      have cN : wr.cell? ⟨n0, 23, none⟩ = some (.slice A n c) := (cell_of_row wr n0 23 _ _ _ hb).trans (congrArg some Hnv.out)
      have hN : Calls Tryz.prog 28 #[.pointer (some ⟨n0 + 1, 0, none⟩), .int .i64 n, .int .i64 1, .int .i64 0, .int .i64 16] wr fun e w' => e = .returned (.tuple #[]) ∧ WrS (n0 + 1) (stN (inB p 4 s16) n 1 0 16) w [(n0, .cells (pkC p) 41 (0, 0))] w' := wst_num n 1 0 16 (Or.inl rfl) (nat_I64 (by omega)) HLb.out (by omega) wr HR.out
      obtain ⟨sn, hsn⟩ : ∃ s, s = stN (inB p 4 s16) n 1 0 16 := ⟨_, rfl⟩
      rw [← hsn] at hN
      have HLn : Hid (sn.1.length ≤ 43) := Lib.hid (by rw [hsn]; exact Nat.le_trans (stN_len _ _ _ _ _ HLb.out) (by omega))
      have HSn := Lib.hid hsn
      have HN := Lib.hid hN
      clear hN hb hsn
      go_upto_region 41 with ((with_reducible refine HN.out.mono ?_); rintro e wm ⟨rfl, hx⟩; have Hm := Lib.hid hx; clear hx)
      clear cN HN HR
      go_loopw [6] (fun z wr => ∃ i : Nat, z = .int .i64 i ∧ i ≤ n ∧ Hid (WrS (n0 + 1) (inNm (L.take i) sn) w [(n0, .cells (pkC p) 41 (0, 0))] wr ∧ (inNm (L.take i) sn).1.length ≤ 43 + nmB (L.take i))) (fun z _ => n - (intOf z).toNat)
      case atStart => exact ⟨0, rfl, Nat.zero_le _, Lib.hid ⟨Hm.out, HLn.out⟩⟩
      case round =>
        obtain ⟨i, rfl, hile, HR⟩ := hrel
        have hb := HR.out.1.get (k := n0) List.mem_cons_self
        have cN : wr.cell? ⟨n0, 23, none⟩ = some (.slice A n c) := (cell_of_row wr n0 23 _ _ _ hb).trans (congrArg some Hnv.out)
        by_cases hlt : i < n
        · have h1 : (i : Int) < n := by omega
          have h0 : (0 : Int) ≤ i := by omega
          have hiL : i < L.length := by rw [HnL.out]; exact hlt
          obtain ⟨x, hx⟩ : ∃ x, L[i]? = some x := ⟨_, List.getElem?_eq_getElem hiL⟩
          have hSw := HSt.out.keep HR.out.1.bl
          obtain ⟨b, o, hA, hc⟩ : ∃ b o, A = some ⟨b, o, none⟩ ∧ wr.cell? ⟨b, o + i, none⟩ = some (.string ⟨x.toArray⟩) := by
            rcases hSw with h | ⟨b, o, h2, _, h4⟩
            · rw [h] at hiL; simp at hiL
            · exact ⟨b, o, h2, h4 i x hx⟩
          have hxm := nmB_at hx
          have hxl := nmB_take L (i + 1)
          have hNL := HNm.out
          have hN : Calls Tryz.prog 29 #[.pointer (some ⟨n0 + 1, 0, none⟩), .string ⟨x.toArray⟩, .int .i64 1, .int .i64 12] wr fun e w' => e = .returned (.tuple #[]) ∧ WrS (n0 + 1) (stT (inNm (L.take i) sn) ⟨x.toArray⟩ 1 12) w [(n0, .cells (pkC p) 41 (0, 0))] w' := wst_text ⟨x.toArray⟩ 1 12 (Or.inl rfl) (by rw [byArr_size]; omega) HR.out.2 (by omega) (noBytes_pk n0 p) wr HR.out.1
          have HStep : Hid (inNm (L.take (i + 1)) sn = stT (inNm (L.take i) sn) ⟨x.toArray⟩ 1 12) := Lib.hid (by rw [List.take_add_one, hx]; exact inNm_snoc _ _ _)
          have HLs : Hid ((inNm (L.take (i + 1)) sn).1.length ≤ 43 + nmB (L.take (i + 1))) := Lib.hid (by
            rw [HStep.out, hxm]
            have := stT_len _ ⟨x.toArray⟩ 1 12 HR.out.2 (Nat.le_of_eq (byArr_size x))
            omega)
          subst hA
          have HN := Lib.hid hN
          clear hN hb hlt hiL hx hSw hxm hxl hNL
          go_wp2_with ((with_reducible refine HN.out.mono ?_); rintro e wm2 ⟨rfl, hx⟩; have Hm2 := Lib.hid hx; clear hx)
          go_roundw
          case rel => exact ⟨i + 1, by go_num, by omega, Lib.hid ⟨by rw [HStep.out]; exact Hm2.out, HLs.out⟩⟩
          case measure => simp [intOf]; omega
        · obtain rfl : i = n := by omega
          have h1 : ¬ (i : Int) < i := by omega
          have a0 : wr.cell? ⟨n0, 0, none⟩ = some (.int .i64 4) := (by rw [← hk]; exact cell_of_row wr n0 0 _ _ _ hb)
          obtain ⟨sf, hsf⟩ : ∃ s, s = in4 p L := ⟨_, rfl⟩
          have HR2 : Hid (WrS (n0 + 1) sf w [(n0, .cells (pkC p) 41 (0, 0))] wr) := Lib.hid (by
            have := HR.out.1
            rw [List.take_of_length_le (by have := HnL.out; omega), HSn.out, HE4.out, ← HnL.out] at this
            rw [hsf]
            exact this)
          have HE : Hid (sf = in4 p L) := Lib.hid hsf
          clear hlt hile hb hsf
          have hb := HR2.out.get (k := n0) List.mem_cons_self
          have hr0 := row_rangeK hb
          have HC := Lib.hid (HO.out wr HR2.out.bl)
          clear hb
          go_upto_region 47 with (first | (refine wpList_load_mid rfl 41 _ rfl n0 0 rfl (pkC p).toList _ hr0 Tryz.underlying41 rfl (pk_len p) ?_) | ((with_reducible refine HC.out.mono ?_); rintro e wz ⟨r, rfl, h1, h2⟩; have HR := Lib.hid h1; have HZ := Lib.hid (HR2.out.below h2); clear h1 h2))
          obtain ⟨v, g1, g2, g3, g4, g5, g6⟩ := HZ.out
          have e0 : wz.cell? ⟨n0 + 1, 0, none⟩ = some v := cell_of_row wz (n0 + 1) 0 _ _ _ g1
          have e1 : wz.cell? ⟨n0 + 1, 1, none⟩ = some (.bool sf.2) := cell_of_row wz (n0 + 1) 1 _ _ _ g1
          obtain ⟨A2, c2, hv⟩ := rv_slice g2
          subst hv
          have HOw := Lib.hid g2
          have HBl := Lib.hid g5
          clear g1 g2 g3 g4 g5 g6 HC HO HR2 HZ
          obtain ⟨o, ho⟩ : ∃ o, o = sf.2 := ⟨_, rfl⟩
          rw [← ho] at e1
          have Ho := Lib.hid ho
          clear ho hr0
          rcases bdic o with h | h
          · subst h
            go_quiet (fail)
            go_wp2_with fail
            go_ret2
            refine ⟨.slice A2 sf.1.length c2, r, ?_, HR.out, ?_, below_drewN HBl.out _⟩
            · rw [← HE.out, ← Ho.out]; rfl
            · rw [← HE.out]; exact HOw.out.keep (below_drewN (Below.refl _ _) _)
          · subst h
            go_quiet (fail)
            go_wp2_with fail
            go_ret2
            refine ⟨.slice A2 sf.1.length c2, r, ?_, HR.out, ?_, below_drewN HBl.out _⟩
            · rw [← HE.out, ← Ho.out]; rfl
            · rw [← HE.out]; exact HOw.out.keep (below_drewN (Below.refl _ _) _)
end Go.Proofs.YtiinponoeaihcaaGreat

/- commonsref07.Put: a packet's bytes. -/
namespace Go.Proofs.YtiinponoeaihcaaGreat
open Go.RowKit Go.Shelf

attribute [local go_sem] Oper.semAt_some
/-- what Put answers: nothing, or bytes with their sum -/
def PutA (p q : Pk) (s : Sw) (w : World) (e : Ending) (w' : World) : Prop :=
  (¬ (s.2 = false ∧ p = q) ∧ e = .returned (.tuple #[.slice none 0 0, .int .i64 1]) ∧ Below w.heap.size w w') ∨
  (s.2 = false ∧ ∃ v, e = .returned (.tuple #[v, .int .i64 0]) ∧ OwnB w' w.heap.size v (s.1 ++ Gd.le (Gd.crc s.1) 4) ∧ Below w.heap.size w w')
set_option maxHeartbeats 8000000 in
set_option maxRecDepth 100000 in
theorem put_gen (p q : Pk) (s : Sw) (hlen : s.2 = false → s.1.length ≤ 900000) (w : World) (hI : ∀ W, Below w.heap.size w W → Calls Tryz.prog 16 #[.agg (pkC p)] W (InP p q s W)) :
    Calls Tryz.prog 6 #[.agg (pkC p)] w (PutA p q s w) := by
  have HI := Lib.hid hI
  have HLn := Lib.hid hlen
  clear hI hlen
  go_enter Tryz.func6, Tryz.ntmps6
  go_upto_region 1 with fail
  obtain ⟨w1, hw⟩ : ∃ u, u = w.alloc (.cells (pkC p) 41) := ⟨_, rfl⟩
  obtain ⟨n0, hn⟩ : ∃ u, u = w.heap.size := ⟨_, rfl⟩
  have h0 : w1.heap[n0]? = some (.cells (pkC p) 41 (0, 0)) := by rw [hw, hn]; exact heap_alloc_new _ _
  have HB : Hid (Below w.heap.size w w1) := Lib.hid (by rw [hw]; exact (Below.refl _ _).alloc (Nat.le_refl _) _)
  rw [← hw, ← hn]
  have hr0 := row_rangeK h0
  have HC := Lib.hid (HI.out w1 HB.out)
  clear hw hn h0
  go_upto_region 2 with (first | (refine wpList_load_mid rfl 41 _ rfl n0 0 rfl (pkC p).toList _ hr0 Tryz.underlying41 rfl (pk_len p) ?_) | ((with_reducible refine HC.out.mono ?_); rintro e w2 ⟨v, r, rfl, h1, h2, h3⟩; have HR := Lib.hid h1; have HO := Lib.hid h2; have HB2 := Lib.hid (HB.out.trans (h3.mono HB.out.size)); clear h1 h2 h3))
  obtain ⟨o, ho⟩ : ∃ o, o = (!s.2 && r) := ⟨_, rfl⟩
  rw [← ho]
  have Ho := Lib.hid ho
  clear ho hr0 HC
  rcases bdic o with h | h
  · subst h
    go_wp2_with fail
    go_ret2
    refine Or.inl ⟨fun hc => ?_, rfl, HB2.out⟩
    have h1 := Ho.out
    rw [hc.1, HR.out hc.2] at h1
    simp at h1
  · subst h
    have hs2 : s.2 = false := by
      have h1 := Ho.out
      cases hc : s.2
      · rfl
      · rw [hc] at h1; simp at h1
    have HS := Lib.hid (sealed_any v s.1 w2 HO.out.at_ (HLn.out hs2))
    have Hs2 := Lib.hid hs2
    clear hs2
    go_wp2_with ((with_reducible refine HS.out.mono ?_); rintro e w3 ⟨u, rfl, hown, hbl⟩; have HO3 := Lib.hid hown; have HB3 := Lib.hid hbl; clear hown hbl)
    go_ret2
    exact Or.inr ⟨Hs2.out, u, rfl, HO3.out.mono HB2.out.size, HB2.out.trans (HB3.out.mono HB2.out.size)⟩
end Go.Proofs.YtiinponoeaihcaaGreat

/- What a client sends may be put. -/
namespace Go.Proofs.YtiinponoeaihcaaGreat
open Go.RowKit Go.Shelf

/-- a packet that a client sends -/
structure GoodP (p : Pk) : Prop where
  cl : p.cl = 1
  ep : 0 ≤ p.ep ∧ p.ep < 4294967296
  sq : 0 ≤ p.sq ∧ p.sq ≤ 9223372036854775807
  is : (p.kd = 3 ∧ p = oth3 p ∧ (0 ≤ p.op ∧ p.op < 256) ∧ (0 ≤ p.ino ∧ p.ino < 256) ∧ p.p1.size ≤ 100 ∧ p.p2.size ≤ 100 ∧ (0 ≤ p.fl ∧ p.fl < 256) ∧ p.cn = 0) ∨
    (p.kd = 1 ∧ p = oth1 p ∧ (1 ≤ p.op ∧ p.op ≤ 4) ∧ (0 ≤ p.at_ ∧ p.at_ < 4294967296) ∧ (0 ≤ p.n ∧ p.n < 65536) ∧ p.d.size ≤ 128 ∧ p.old = 0 ∧ p.new = 0)
theorem fitsB_of {n : Int} {k : Nat} (h0 : 0 ≤ n) (h : k = 8 ∨ n < ((256 ^ k : Nat) : Int)) : Gd.fitsB n k = true := by
  unfold Gd.fitsB
  rw [decide_eq_true h0, Bool.true_and]
  rcases h with h | h
  · rw [decide_eq_true h, Bool.true_or]
  · rw [decide_eq_true h, Bool.or_true]
theorem numOk_of {n : Int} {k : Nat} {lo hi : Int} (h0 : 0 ≤ n) (h : k = 8 ∨ n < ((256 ^ k : Nat) : Int)) (h1 : lo ≤ n) (h2 : n ≤ hi) : numOk n k lo hi = true := by
  unfold numOk
  rw [fitsB_of h0 h, decide_eq_true h1, decide_eq_true h2]
  rfl
theorem stN_ok {s : Sw} {n : Int} {k : Nat} {lo hi : Int} (hs : s.2 = false) (h : numOk n k lo hi = true) : (stN s n k lo hi).2 = false := by
  show (s.2 || !numOk n k lo hi) = false
  rw [hs, h]
  rfl
theorem stT_ok {s : Sw} {t : ByteArray} {k : Nat} {hi : Int} (hs : s.2 = false) (h : numOk t.size k 0 hi = true) : (stT s t k hi).2 = false := by
  show (s.2 || !numOk t.size k 0 hi) = false
  rw [hs, h]
  rfl
theorem small_ok {n : Int} {k : Nat} {lo hi : Int} (h : 0 ≤ n ∧ (k = 8 ∨ n < ((256 ^ k : Nat) : Int)) ∧ lo ≤ n ∧ n ≤ hi) : numOk n k lo hi = true := numOk_of h.1 h.2.1 h.2.2.1 h.2.2.2
theorem GoodP.ok3 {p : Pk} (h : GoodP p) (hk : p.kd = 3) : p = oth3 p ∧ (in3 p).2 = false := by
  obtain ⟨h1, h2, h3, h4⟩ := h
  rcases h4 with ⟨_, a0, a1, a2, a3, a4, a5, a6⟩ | ⟨a, _⟩
  · refine ⟨a0, ?_⟩
    unfold in3
    refine stN_ok (stN_ok (stT_ok (stT_ok (stN_ok (stN_ok (stN_ok (stN_ok (stN_ok (stN_ok rfl ?_) ?_) ?_) ?_) ?_) ?_) ?_) ?_) ?_) ?_
    · decide
    · rw [h1]; decide
    · exact small_ok ⟨h2.1, Or.inr (by have := h2.2; exact this), h2.1, by omega⟩
    · exact small_ok ⟨h3.1, Or.inl rfl, h3.1, h3.2⟩
    · exact small_ok ⟨a1.1, Or.inr a1.2, a1.1, by omega⟩
    · exact small_ok ⟨a2.1, Or.inr a2.2, a2.1, by omega⟩
    · exact small_ok ⟨by omega, Or.inr (by show (p.p1.size : Int) < 256; omega), by omega, by omega⟩
    · exact small_ok ⟨by omega, Or.inr (by show (p.p2.size : Int) < 256; omega), by omega, by omega⟩
    · exact small_ok ⟨a5.1, Or.inr a5.2, a5.1, by omega⟩
    · rw [a6]; decide
  · omega
theorem GoodP.ok1 {p : Pk} (h : GoodP p) (hk : p.kd = 1) : p = oth1 p ∧ (in1 p).2 = false := by
  obtain ⟨h1, h2, h3, h4⟩ := h
  rcases h4 with ⟨a, _⟩ | ⟨_, a0, a1, a2, a3, a4, a5, a6⟩
  · omega
  · refine ⟨a0, ?_⟩
    unfold in1
    refine stN_ok (stN_ok (stT_ok (stN_ok (stN_ok (stN_ok (stN_ok (stN_ok (stN_ok (stN_ok rfl ?_) ?_) ?_) ?_) ?_) ?_) ?_) ?_) ?_) ?_
    · decide
    · rw [h1]; decide
    · exact small_ok ⟨h2.1, Or.inr h2.2, h2.1, by omega⟩
    · exact small_ok ⟨h3.1, Or.inl rfl, h3.1, h3.2⟩
    · exact small_ok ⟨by omega, Or.inr (by show p.op < 256; omega), a1.1, a1.2⟩
    · exact small_ok ⟨a2.1, Or.inr a2.2, a2.1, by omega⟩
    · exact small_ok ⟨a3.1, Or.inr a3.2, a3.1, by omega⟩
    · exact small_ok ⟨by omega, Or.inr (by show (p.d.size : Int) < 65536; omega), by omega, by omega⟩
    · rw [a5]; decide
    · rw [a6]; decide
/-- lengths of what was put -/
theorem stT_len2 (s : Sw) (t : ByteArray) (k : Nat) (hi : Int) {m q : Nat} (h : s.1.length ≤ m) (ht : t.size ≤ q) : (stT s t k hi).1.length ≤ m + k + q := stT_len s t k hi h ht
theorem GoodP.len3 {p : Pk} (h : GoodP p) (hk : p.kd = 3) : (in3 p).1.length ≤ 900000 := by
  have a : p.p1.size ≤ 100 ∧ p.p2.size ≤ 100 := by
    rcases h.is with ⟨_, _, _, _, a3, a4, _⟩ | ⟨a, _⟩
    · exact ⟨a3, a4⟩
    · omega
  unfold in3
  refine Nat.le_trans (stN_len _ _ _ _ _ (stN_len _ _ _ _ _ (stT_len _ _ _ _ (stT_len _ _ _ _ (stN_len _ _ _ _ _ (stN_len _ _ _ _ _ (stN_len _ _ _ _ _ (stN_len _ _ _ _ _ (stN_len _ _ _ _ _ (stN_len _ _ _ _ _ (m := 0) (Nat.le_refl _)))))))  a.1) a.2))) ?_
  decide
theorem GoodP.len1 {p : Pk} (h : GoodP p) (hk : p.kd = 1) : (in1 p).1.length ≤ 900000 := by
  have a : p.d.size ≤ 128 := by
    rcases h.is with ⟨a, _⟩ | ⟨_, _, _, _, _, a, _⟩
    · omega
    · exact a
  unfold in1
  refine Nat.le_trans (stN_len _ _ _ _ _ (stN_len _ _ _ _ _ (stT_len _ _ _ _ (stN_len _ _ _ _ _ (stN_len _ _ _ _ _ (stN_len _ _ _ _ _ (stN_len _ _ _ _ _ (stN_len _ _ _ _ _ (stN_len _ _ _ _ _ (stN_len _ _ _ _ _ (m := 0) (Nat.le_refl _)))))))) a))) ?_
  decide
end Go.Proofs.YtiinponoeaihcaaGreat

/- How bytes are read. -/
namespace Go.Proofs.YtiinponoeaihcaaGreat
open Go.RowKit Go.Shelf

attribute [local go_sem] Oper.semAt_some
/-- how bytes are read -/
def rd0 (X : List UInt8) : Rs := (X.take (X.length - 4), false)
def rd1 (X : List UInt8) : Rs := rs (rd0 X) 1
def rd2 (X : List UInt8) : Rs := rs (rd1 X) 1
def rd3 (X : List UInt8) : Rs := rs (rd2 X) 4
def rd4 (X : List UInt8) : Rs := rs (rd3 X) 8
def rdH (X : List UInt8) : Pk := { kd := rn (rd0 X) 1, cl := rn (rd1 X) 1, ep := rn (rd2 X) 4, sq := rn (rd3 X) 8 }
def rdP (X : List UInt8) : Pk := if rn (rd0 X) 1 = 2 then vtP (rd4 X) (rdH X) else rtP (rd4 X) (rdH X)
def rdE (X : List UInt8) : Rs := if rn (rd0 X) 1 = 2 then vtE (rd4 X) else rtE (rd4 X)
def rdS (X : List UInt8) : Prop := 4 ≤ X.length ∧ Gd.get X ((X.length - 4 : Nat) : Int) 4 = ((Gd.crc (X.take (X.length - 4)) : Nat) : Int)
def rdOk (X : List UInt8) : Prop := rdS X ∧ (rdE X).2 = false ∧ (rdE X).1 = [] ∧ 1 ≤ rn (rd1 X) 1 ∧ rn (rd1 X) 1 ≤ 8
def RdQ (X : List UInt8) (p : Pk) (er : Int) : Prop := (er ≠ 0 ∧ ¬ rdOk X) ∨ (er = 0 ∧ rdOk X ∧ ∃ u, (∃ A m c, u = .slice A m c) ∧ p = setNv (rdP X) u)
def ReadA (X : List UInt8) (w : World) (e : Ending) (w' : World) : Prop := ∃ p er, e = .returned (.tuple #[.agg (pkC p), .int .i64 er]) ∧ RdQ X p er ∧ p.nv.oneCell' = true ∧ Below w.heap.size w w'
theorem setB_cl (p : Pk) (i : Nat) (v : Int) : (setB p i v).cl = p.cl := by
  unfold setB
  split <;> rfl
theorem blkP_cl (i : Nat) (s : Rs) (p : Pk) : (blkP i s p).cl = p.cl := by
  induction i with
  | zero => rfl
  | succ i ih => rw [blkP_succ, setB_cl, ih]
theorem rtP_cl (s : Rs) (p : Pk) : (rtP s p).cl = p.cl := by
  rw [rtP, blkP_cl]
  rfl
theorem setNv_cl (p : Pk) (u : Value) : (setNv p u).cl = p.cl := rfl
theorem setNv_nv (p : Pk) (u : Value) : (setNv p u).nv = u := rfl
theorem setNv_id {p : Pk} {u : Value} (h : p.nv = u) : setNv p u = p := by
  subst h
  rfl
end Go.Proofs.YtiinponoeaihcaaGreat
