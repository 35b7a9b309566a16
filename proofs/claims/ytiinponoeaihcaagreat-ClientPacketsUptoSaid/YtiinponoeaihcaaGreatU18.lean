/- commonsref07: Sealed. -/
import Derived.Test.YtiinponoeaihcaaGreatU17
import Derived.BigQuiet
set_option linter.unusedVariables false
set_option linter.unusedSimpArgs false
set_option linter.unusedSectionVars false
namespace Go.Proofs.YtiinponoeaihcaaGreat
open Go.RowKit Go.Shelf

attribute [local go_sem] Oper.semAt_some
set_option maxHeartbeats 4000000 in
theorem sealed_any (v : Value) (L : List UInt8) (w : World) (h : BytesAt w v L) (hl : L.length ≤ 900000) :
    Calls Tryz.prog 17 #[v] w (GivesB w (L ++ Gd.le (Gd.crc L) 4)) := by
  have hc := Gd.crc_lt L
  have HS := Lib.hid (rsum_any v L w h (by omega))
  have HP : Hid (Calls Tryz.prog 31 #[v, .int .i64 (Gd.crc L : Nat), .int .i64 4] w (GivesB w (Gd.put L (Gd.crc L : Nat) 4))) := Lib.hid (rput_any v L (Gd.crc L) 4 (by unfold Gd.wid; omega) (nat_I64 (by omega)) w h (by omega))
  have hput : Gd.put L (Gd.crc L : Nat) 4 = L ++ Gd.le (Gd.crc L) 4 := by
    unfold Gd.put
    rw [if_pos (by unfold Gd.fitsB; rw [decide_eq_true (show (0 : Int) ≤ (Gd.crc L : Nat) by omega), Bool.true_and, decide_eq_true (show ((Gd.crc L : Nat) : Int) < ((256 ^ 4 : Nat) : Int) by omega), Bool.or_true]), Int.toNat_natCast]
  have Hput := Lib.hid hput
  clear h hl hc hput
  go_enter Tryz.func17, Tryz.ntmps17
  go_wp2_with (first | ((with_reducible refine HS.out.mono ?_); rintro e w1 ⟨rfl, hw1⟩; subst hw1) | ((with_reducible refine HP.out.mono ?_); rintro e w2 ⟨u, rfl, hown, hbl⟩; have HO := Lib.hid hown; have HB := Lib.hid hbl; clear hown hbl))
  go_ret
  rw [Hput.out] at HO
  exact ⟨_, rfl, HO.out, HB.out⟩
end Go.Proofs.YtiinponoeaihcaaGreat

/- Walks: commonsref05.Same: two lists held against each other, wherever they lie. -/
namespace Go.Proofs.YtiinponoeaihcaaGreat
open Go.RowKit

/-- a list of texts, wherever it lies -/
def StrR (w : World) (A : Option Addr) (L : List (List UInt8)) : Prop := L = [] ∨ ∃ b o, A = some ⟨b, o, none⟩ ∧ b < w.heap.size ∧ ∀ j x, L[j]? = some x → w.cell? ⟨b, o + j, none⟩ = some (.string ⟨x.toArray⟩)
theorem StrR.keep {w w' : World} {A : Option Addr} {L : List (List UInt8)} (h : StrR w A L) (hb : Below w.heap.size w w') : StrR w' A L := by
  rcases h with h | ⟨b, o, h1, h2, h3⟩
  · exact Or.inl h
  · have := hb.size
    exact Or.inr ⟨b, o, h1, by omega, fun j x hx => (hb.cell (p := ⟨b, o + j, none⟩) h2).trans (h3 j x hx)⟩
theorem take_both {L M : List (List UInt8)} {k : Nat} {x y : List UInt8} (h : L.take k = M.take k) (hx : L[k]? = some x) (hy : M[k]? = some y) : (L.take (k + 1) = M.take (k + 1)) ↔ x = y := by
  rw [List.take_add_one, List.take_add_one, hx, hy, h]
  simp

set_option maxHeartbeats 1000000 in
theorem names_same_any (A A' : Option Addr) (L M : List (List UInt8)) (c c' : Nat) (w : World) (hL : L.length ≤ 4000000) (hM : M.length ≤ 4000000) (hS : StrR w A L) (hS' : StrR w A' M) :
    Calls Tryz.prog 84 #[.slice A L.length c, .slice A' M.length c'] w fun e w' => e = .returned (.bool (decide (L = M))) ∧ Below w.heap.size w w' := by
  have HS := Lib.hid hS; clear hS
  have HS' := Lib.hid hS'; clear hS'
  by_cases hne : L.length = M.length
  · obtain ⟨n, hn⟩ : ∃ n, n = L.length := ⟨_, rfl⟩
    rw [← hne, ← hn]
    have Hn := Lib.hid hn
    have Hm := Lib.hid (hn.trans hne)
    have hn1 : n ≤ 4000000 := by omega
    clear hn hne hL hM
    obtain ⟨r, hr⟩ : ∃ r, r = decide (L = M) := ⟨_, rfl⟩
    rw [← hr]
    have Hr := Lib.hid hr; clear hr
    go_enter Tryz.func84, Tryz.ntmps84
    go_wp2
    go_loopw [5] (fun i wr => ∃ k : Nat, k ≤ n ∧ i = .int .i64 k ∧ Hid (L.take k = M.take k) ∧ Below w.heap.size w wr) (fun i _ => n - (intOf i).toNat)
    case atStart => exact ⟨0, by omega, rfl, by show L.take 0 = M.take 0; simp, Below.refl _ _⟩
    case round =>
      obtain ⟨k, hk, rfl, hok, hbw⟩ := hrel
      by_cases hlt : k < n
      · have hkL : k < L.length := by have := Hn.out; omega
        have hkM : k < M.length := by have := Hm.out; omega
        obtain ⟨x, hx⟩ : ∃ x, L[k]? = some x := ⟨_, List.getElem?_eq_getElem hkL⟩
        obtain ⟨y, hy⟩ : ∃ y, M[k]? = some y := ⟨_, List.getElem?_eq_getElem hkM⟩
        rcases HS.out with h | ⟨b, o, rfl, h3, h4⟩
        · subst h; simp at hkL
        rcases HS'.out with h | ⟨b', o', rfl, h3', h4'⟩
        · subst h; simp at hkM
        have hc : wr.cell? ⟨b, o + k, none⟩ = some (.string ⟨x.toArray⟩) := (hbw.cell (p := ⟨b, o + k, none⟩) h3).trans (h4 k x hx)
        have hc' : wr.cell? ⟨b', o' + k, none⟩ = some (.string ⟨y.toArray⟩) := (hbw.cell (p := ⟨b', o' + k, none⟩) h3').trans (h4' k y hy)
        have hiff := take_both hok.out hx hy
        have Hiff := Lib.hid hiff
        have Hx := Lib.hid hx
        have Hy := Lib.hid hy
        clear h4 h4' hx hy hiff hkL hkM
        have hk1 : (0 : Int) ≤ k := by omega
        have hk2 : (k : Int) < n := by omega
        go_wp2
        go_quiet (fail)
        go_wp2
        · have hne : (!x == y) = true := by assumption
          have hxy : ¬ x = y := by simpa using hne
          go_ret
          refine ⟨ret_bool ?_, below_drewN hbw _⟩
          rw [Hr.out]
          symm
          exact decide_eq_false fun h => hxy (Hiff.out.1 (by rw [h]))
        · have hne : (!x == y) = false := by assumption
          have hxy : x = y := by simpa using hne
          go_roundw
          case rel => exact ⟨k + 1, by omega, by go_num, Hiff.out.2 hxy, below_drewN hbw _⟩
          case measure => simp [intOf]; omega
      · go_wp2
        go_ret
        refine ⟨ret_bool ?_, hbw⟩
        have := hok.out
        rw [List.take_of_length_le (by have := Hn.out; omega), List.take_of_length_le (by have := Hm.out; omega)] at this
        rw [Hr.out, decide_eq_true this]
  · have hne' : ((L.length : Int) != M.length) = true := by rw [bne_iff_ne]; omega
    have hd : decide (L = M) = false := decide_eq_false fun h => hne (by rw [h])
    rw [hd]
    clear hd hne
    go_enter Tryz.func84, Tryz.ntmps84
    go_wp2
    go_ret
    exact ⟨rfl, Below.refl _ _⟩

end Go.Proofs.YtiinponoeaihcaaGreat

/- The reader of packets: rpcTold. -/
namespace Go.Proofs.YtiinponoeaihcaaGreat
open Go.RowKit Go.Shelf

attribute [local go_sem] Oper.semAt_some

def rsN : Nat → Rs → Rs
  | 0, s => s
  | i + 1, s => rs (rsN i s) 1
def setNv (p : Pk) (u : Value) : Pk := { p with nv := u }
def setB (p : Pk) (i : Nat) (v : Int) : Pk := match i with
  | 0 => { p with b0 := v }
  | 1 => { p with b1 := v }
  | 2 => { p with b2 := v }
  | _ => { p with b3 := v }
def blkP : Nat → Rs → Pk → Pk
  | 0, _, p => p
  | i + 1, s, p => setB (blkP i s p) i (rn (rsN i s) 1)
theorem blkP_succ (i : Nat) (s : Rs) (p : Pk) : blkP (i + 1) s p = setB (blkP i s p) i (rn (rsN i s) 1) := rfl
theorem rsN_succ (i : Nat) (s : Rs) : rsN (i + 1) s = rs (rsN i s) 1 := rfl
theorem row_ge {w : World} {B e sz n : Nat} {v : Value} {xs : List Value} (h : w.ownsRow B e sz v n xs) {k : Nat} (hk : v.ownBlock = some k) : B ≤ k ∧ k < w.heap.size := by
  rcases h.2 with ⟨rfl, _⟩ | ⟨g, cap, cur, rfl, h1, hg, _⟩
  · cases hk
  · cases hk
    exact ⟨h1, lt_get hg⟩
theorem RP.text2 {w0 w : World} {r pb b : Nat} {s : Rs} {p : Pk} (h : RP w0 r pb b s p w) (k most : Nat) (hk : Gd.wid k) (hm : most ≤ 1000) :
    Calls Tryz.prog 71 #[.pointer (some ⟨r, 0, none⟩), .int .i64 k, .int .i64 most] w fun e w' => e = .returned (.string (tn s k most)) ∧ RP w0 r pb b (ts s k most) p w' ∧ Only (fun q => q = r) w w' := by
  obtain ⟨⟨o, c, h1⟩, h2, h3, h4⟩ := h
  refine (rtext_any k most hk hm w h1).mono ?_
  rintro e w' ⟨he, hr, hO⟩
  exact ⟨he, ⟨hr, (hO.block pb (lt_get h2) h3.1).trans h2, h3, h4.trans hO fun _ _ e => Or.inl e⟩, hO⟩
theorem rv_sliceS {w : World} {B e sz n : Nat} {v : Value} {xs : List Value} (h : w.ownsRow B e sz v n xs) : ∃ A m c, v = .slice A m c := by
  rcases h.2 with ⟨e, _⟩ | ⟨g, cap, cur, e, _⟩
  · exact ⟨_, _, _, e⟩
  · exact ⟨_, _, _, e⟩
theorem setB_nv (p : Pk) (i : Nat) (v : Int) : (setB p i v).nv = p.nv := by
  unfold setB
  split <;> rfl
theorem blkP_nv (i : Nat) (s : Rs) (p : Pk) : (blkP i s p).nv = p.nv := by
  induction i with
  | zero => rfl
  | succ i ih => rw [blkP_succ, setB_nv, ih]
theorem setB_cells (p : Pk) {i : Nat} (hi : i < 4) (v : Int) : pkC (setB p i v) = (pkC p).setIfInBounds (31 + i) (.int .i64 v) := by
  rcases (by omega : i = 0 ∨ i = 1 ∨ i = 2 ∨ i = 3) with rfl | rfl | rfl | rfl <;> rfl
/-- names are read, till it is odd -/
def rnm : Nat → Rs → Rs
  | 0, s => s
  | n + 1, s => if s.2 = true then s else rnm n (ts s 1 12)
theorem rnm_odd (n : Nat) {s : Rs} (h : s.2 = true) : rnm n s = s := by
  cases n with
  | zero => rfl
  | succ n => rw [rnm, if_pos h]
/-- the states of the reader, of an answer to a question -/
def rt1 (s : Rs) : Rs := rs s 1
def rt2 (s : Rs) : Rs := rs (rt1 s) 1
def rt3 (s : Rs) : Rs := rs (rt2 s) 1
def rt4 (s : Rs) : Rs := rs (rt3 s) 8
def rt5 (s : Rs) : Rs := rs (rt4 s) 4
def rt6 (s : Rs) : Rs := rs (rt5 s) 1
def rt7 (s : Rs) : Rs := rs (rt6 s) 1
def rt8 (s : Rs) : Rs := rs (rt7 s) 2
def rt9 (s : Rs) : Rs := rs (rt8 s) 1
def rt10 (s : Rs) : Rs := rs (rt9 s) 1
def rt11 (s : Rs) : Rs := rs (rt10 s) 2
def rtP0 (s : Rs) (p : Pk) : Pk := { p with op := rn s 1, er := rn (rt1 s) 1, ino := rn (rt2 s) 1, wr := rn (rt3 s) 8, at_ := rn (rt4 s) 4, ik := rn (rt5 s) 1, il := rn (rt6 s) 1, isz := rn (rt7 s) 2, nk := rn (rt8 s) 1, nl := rn (rt9 s) 1, ns := rn (rt10 s) 2 }
def rtP (s : Rs) (p : Pk) : Pk := blkP 4 (rt11 s) (rtP0 s p)
def rtN (s : Rs) : Int := rn (rsN 4 (rt11 s)) 1
def rtM (s : Rs) : Rs := rs (rsN 4 (rt11 s)) 1
/-- .. at the end -/
def rtE (s : Rs) : Rs := rnm (rtN s).toNat ((rtM s).1, (rtM s).2 || decide (16 < rtN s))
theorem RP.lts {w0 w : World} {r pb b : Nat} {s : Rs} {p : Pk} (h : RP w0 r pb b s p w) : r < w.heap.size ∧ pb < w.heap.size ∧ b < w.heap.size := by
  obtain ⟨o, c, h1⟩ := h.rd
  exact ⟨lt_get h1.obj, lt_get h.pk, h1.lt⟩
/-- other blocks are written -/
theorem RP.apart {w0 w w' : World} {r pb b : Nat} {s : Rs} {p : Pk} {G : Nat → Prop} (h : RP w0 r pb b s p w) (hO : Only G w w') (hn : ∀ q, G q → w0.heap.size ≤ q) (hl : r < w0.heap.size ∧ pb < w0.heap.size ∧ b < w0.heap.size) : RP w0 r pb b s p w' := by
  obtain ⟨⟨o, c, h1⟩, h2, h3, h4⟩ := h
  have hs := hO.size
  refine ⟨⟨o, c, (hO.block r (lt_get h1.obj) fun e => by have := hn r e; omega).trans h1.obj, h1.ne, Nat.lt_of_lt_of_le h1.lt hs, h1.le, h1.cap, h1.small, fun j y hy => (hO.cell (p := ⟨b, o + j, none⟩) h1.lt fun e => by have := hn b e; omega).trans (h1.cell j y hy)⟩, (hO.block pb (lt_get h2) fun e => by have := hn pb e; omega).trans h2, h3, h4.trans hO fun j hj e => by have := hn j e; omega⟩
theorem Tryz.infoStr : (Tryz.prog.info? 9).map (fun i => (i.zero, i.size, i.bytes)) = some (some (.string ⟨#[]⟩), 1, 16) := by kernel_rfl
theorem cells_new1 (w : World) (a : Value) (t : TypeId) : ∀ j u, [a][j]? = some u → (w.alloc (.cells #[a] t)).cell? ((⟨w.heap.size, 0, none⟩ : Addr).add j) = some u := by
  intro j u hj
  match j, hj with
  | 0, hj =>
    cases hj
    exact cell_of_row _ w.heap.size 0 _ _ _ (heap_alloc_new w (.cells #[a] t))
  | j + 1, hj => simp at hj
set_option maxHeartbeats 16000000 in
set_option maxRecDepth 100000 in
theorem rrt_any {r pb b : Nat} {s0 : Rs} {p0 : Pk} (w : World) (h : RP w r pb b s0 p0 w) (hnv : p0.nv = .slice none 0 0) :
    Calls Tryz.prog 40 #[.pointer (some ⟨r, 0, none⟩), .pointer (some ⟨pb, 0, none⟩)] w fun e w' => e = .returned (.tuple #[]) ∧ ∃ u, (∃ A m c, u = .slice A m c) ∧ RP w r pb b (rtE s0) (setNv (rtP s0 p0) u) w' := by
  obtain ⟨i0, hi, hz0, hz1, hz2⟩ := info_parts Tryz.infoStr
  have HLt := Lib.hid h.lts
  have H0 := Lib.hid h
  have HNv := Lib.hid hnv
  clear h hnv
  go_enter Tryz.func40, Tryz.ntmps40
  have hN : Calls Tryz.prog 35 #[.pointer (some ⟨r, 0, none⟩), .int .i64 1] w fun e w' => e = .returned (.int .i64 (rn s0 1)) ∧ RP w r pb b (rt1 s0) p0 w' := H0.out.num 1 (Or.inl rfl)
  obtain ⟨x0, hx0⟩ : ∃ x, x = rn s0 1 := ⟨_, rfl⟩
  rw [← hx0] at hN
  have HX0 := Lib.hid hx0
  have HN := Lib.hid hN
  clear hN hx0
  go_wp2_with fail
  refine HN.out.mono ?_
  rintro e wm ⟨rfl, hm⟩
  have Hm := Lib.hid hm
  have cf := hm.at_ 4
  obtain ⟨cf1, cf2⟩ := cf
  have cf1' : wm.cell? ⟨pb, 4, none⟩ = some (.int .i64 p0.op) := cf1
  clear hm HN cf1
  go_upto_region 1 with fail
  obtain ⟨w1, hw⟩ : ∃ u, u = wm.setCell ⟨pb, 4, none⟩ (.int .i64 x0) := ⟨_, rfl⟩
  rw [← hw]
  have H1 : Hid (RP w r pb b (rt1 s0) { p0 with op := x0 } w1) := Lib.hid (by rw [hw]; exact Hm.out.set (p' := { p0 with op := x0 }) rfl)
  clear hw cf1' cf2 Hm H0
  have hN : Calls Tryz.prog 35 #[.pointer (some ⟨r, 0, none⟩), .int .i64 1] w1 fun e w' => e = .returned (.int .i64 (rn (rt1 s0) 1)) ∧ RP w r pb b (rt2 s0) { p0 with op := x0 } w' := H1.out.num 1 (Or.inl rfl)
  obtain ⟨x1, hx1⟩ : ∃ x, x = rn (rt1 s0) 1 := ⟨_, rfl⟩
  rw [← hx1] at hN
  have HX1 := Lib.hid hx1
  have HN := Lib.hid hN
  clear hN hx1
  go_wp2_with fail
  refine HN.out.mono ?_
  rintro e wm ⟨rfl, hm⟩
  have Hm := Lib.hid hm
  have cf := hm.at_ 19
  obtain ⟨cf1, cf2⟩ := cf
  have cf1' : wm.cell? ⟨pb, 19, none⟩ = some (.int .i64 p0.er) := cf1
  clear hm HN cf1
  go_upto_region 2 with fail
  obtain ⟨w2, hw⟩ : ∃ u, u = wm.setCell ⟨pb, 19, none⟩ (.int .i64 x1) := ⟨_, rfl⟩
  rw [← hw]
  have H2 : Hid (RP w r pb b (rt2 s0) { p0 with op := x0, er := x1 } w2) := Lib.hid (by rw [hw]; exact Hm.out.set (p' := { p0 with op := x0, er := x1 }) rfl)
  clear hw cf1' cf2 Hm H1
  have hN : Calls Tryz.prog 35 #[.pointer (some ⟨r, 0, none⟩), .int .i64 1] w2 fun e w' => e = .returned (.int .i64 (rn (rt2 s0) 1)) ∧ RP w r pb b (rt3 s0) { p0 with op := x0, er := x1 } w' := H2.out.num 1 (Or.inl rfl)
  obtain ⟨x2, hx2⟩ : ∃ x, x = rn (rt2 s0) 1 := ⟨_, rfl⟩
  rw [← hx2] at hN
  have HX2 := Lib.hid hx2
  have HN := Lib.hid hN
  clear hN hx2
  go_wp2_with fail
  refine HN.out.mono ?_
  rintro e wm ⟨rfl, hm⟩
  have Hm := Lib.hid hm
  have cf := hm.at_ 18
  obtain ⟨cf1, cf2⟩ := cf
  have cf1' : wm.cell? ⟨pb, 18, none⟩ = some (.int .i64 p0.ino) := cf1
  clear hm HN cf1
  go_upto_region 3 with fail
  obtain ⟨w3, hw⟩ : ∃ u, u = wm.setCell ⟨pb, 18, none⟩ (.int .i64 x2) := ⟨_, rfl⟩
  rw [← hw]
  have H3 : Hid (RP w r pb b (rt3 s0) { p0 with op := x0, er := x1, ino := x2 } w3) := Lib.hid (by rw [hw]; exact Hm.out.set (p' := { p0 with op := x0, er := x1, ino := x2 }) rfl)
  clear hw cf1' cf2 Hm H2
  have hN : Calls Tryz.prog 35 #[.pointer (some ⟨r, 0, none⟩), .int .i64 8] w3 fun e w' => e = .returned (.int .i64 (rn (rt3 s0) 8)) ∧ RP w r pb b (rt4 s0) { p0 with op := x0, er := x1, ino := x2 } w' := H3.out.num 8 (Or.inr (Or.inr (Or.inr rfl)))
  obtain ⟨x3, hx3⟩ : ∃ x, x = rn (rt3 s0) 8 := ⟨_, rfl⟩
  rw [← hx3] at hN
  have HX3 := Lib.hid hx3
  have HN := Lib.hid hN
  clear hN hx3
  go_wp2_with fail
  refine HN.out.mono ?_
  rintro e wm ⟨rfl, hm⟩
  have Hm := Lib.hid hm
  have cf := hm.at_ 27
  obtain ⟨cf1, cf2⟩ := cf
  have cf1' : wm.cell? ⟨pb, 27, none⟩ = some (.int .i64 p0.wr) := cf1
  clear hm HN cf1
  go_upto_region 4 with fail
  obtain ⟨w4, hw⟩ : ∃ u, u = wm.setCell ⟨pb, 27, none⟩ (.int .i64 x3) := ⟨_, rfl⟩
  rw [← hw]
  have H4 : Hid (RP w r pb b (rt4 s0) { p0 with op := x0, er := x1, ino := x2, wr := x3 } w4) := Lib.hid (by rw [hw]; exact Hm.out.set (p' := { p0 with op := x0, er := x1, ino := x2, wr := x3 }) rfl)
  clear hw cf1' cf2 Hm H3
  have hN : Calls Tryz.prog 35 #[.pointer (some ⟨r, 0, none⟩), .int .i64 4] w4 fun e w' => e = .returned (.int .i64 (rn (rt4 s0) 4)) ∧ RP w r pb b (rt5 s0) { p0 with op := x0, er := x1, ino := x2, wr := x3 } w' := H4.out.num 4 (Or.inr (Or.inr (Or.inl rfl)))
  obtain ⟨x4, hx4⟩ : ∃ x, x = rn (rt4 s0) 4 := ⟨_, rfl⟩
  rw [← hx4] at hN
  have HX4 := Lib.hid hx4
  have HN := Lib.hid hN
  clear hN hx4
  go_wp2_with fail
  refine HN.out.mono ?_
  rintro e wm ⟨rfl, hm⟩
  have Hm := Lib.hid hm
  have cf := hm.at_ 5
  obtain ⟨cf1, cf2⟩ := cf
  have cf1' : wm.cell? ⟨pb, 5, none⟩ = some (.int .i64 p0.at_) := cf1
  clear hm HN cf1
  go_upto_region 5 with fail
  obtain ⟨w5, hw⟩ : ∃ u, u = wm.setCell ⟨pb, 5, none⟩ (.int .i64 x4) := ⟨_, rfl⟩
  rw [← hw]
  have H5 : Hid (RP w r pb b (rt5 s0) { p0 with op := x0, er := x1, ino := x2, wr := x3, at_ := x4 } w5) := Lib.hid (by rw [hw]; exact Hm.out.set (p' := { p0 with op := x0, er := x1, ino := x2, wr := x3, at_ := x4 }) rfl)
  clear hw cf1' cf2 Hm H4
  have hN : Calls Tryz.prog 35 #[.pointer (some ⟨r, 0, none⟩), .int .i64 1] w5 fun e w' => e = .returned (.int .i64 (rn (rt5 s0) 1)) ∧ RP w r pb b (rt6 s0) { p0 with op := x0, er := x1, ino := x2, wr := x3, at_ := x4 } w' := H5.out.num 1 (Or.inl rfl)
  obtain ⟨x5, hx5⟩ : ∃ x, x = rn (rt5 s0) 1 := ⟨_, rfl⟩
  rw [← hx5] at hN
  have HX5 := Lib.hid hx5
  have HN := Lib.hid hN
  clear hN hx5
  go_wp2_with fail
  refine HN.out.mono ?_
  rintro e wm ⟨rfl, hm⟩
  have Hm := Lib.hid hm
  have cf := hm.at_ 24
  obtain ⟨cf1, cf2⟩ := cf
  have cf1' : wm.cell? ⟨pb, 24, none⟩ = some (.int .i64 p0.ik) := cf1
  clear hm HN cf1
  go_upto_region 6 with fail
  obtain ⟨w6, hw⟩ : ∃ u, u = wm.setCell ⟨pb, 24, none⟩ (.int .i64 x5) := ⟨_, rfl⟩
  rw [← hw]
  have H6 : Hid (RP w r pb b (rt6 s0) { p0 with op := x0, er := x1, ino := x2, wr := x3, at_ := x4, ik := x5 } w6) := Lib.hid (by rw [hw]; exact Hm.out.set (p' := { p0 with op := x0, er := x1, ino := x2, wr := x3, at_ := x4, ik := x5 }) rfl)
  clear hw cf1' cf2 Hm H5
  have hN : Calls Tryz.prog 35 #[.pointer (some ⟨r, 0, none⟩), .int .i64 1] w6 fun e w' => e = .returned (.int .i64 (rn (rt6 s0) 1)) ∧ RP w r pb b (rt7 s0) { p0 with op := x0, er := x1, ino := x2, wr := x3, at_ := x4, ik := x5 } w' := H6.out.num 1 (Or.inl rfl)
  obtain ⟨x6, hx6⟩ : ∃ x, x = rn (rt6 s0) 1 := ⟨_, rfl⟩
  rw [← hx6] at hN
  have HX6 := Lib.hid hx6
  have HN := Lib.hid hN
  clear hN hx6
  go_wp2_with fail
  refine HN.out.mono ?_
  rintro e wm ⟨rfl, hm⟩
  have Hm := Lib.hid hm
  have cf := hm.at_ 25
  obtain ⟨cf1, cf2⟩ := cf
  have cf1' : wm.cell? ⟨pb, 25, none⟩ = some (.int .i64 p0.il) := cf1
  clear hm HN cf1
  go_upto_region 7 with fail
  obtain ⟨w7, hw⟩ : ∃ u, u = wm.setCell ⟨pb, 25, none⟩ (.int .i64 x6) := ⟨_, rfl⟩
  rw [← hw]
  have H7 : Hid (RP w r pb b (rt7 s0) { p0 with op := x0, er := x1, ino := x2, wr := x3, at_ := x4, ik := x5, il := x6 } w7) := Lib.hid (by rw [hw]; exact Hm.out.set (p' := { p0 with op := x0, er := x1, ino := x2, wr := x3, at_ := x4, ik := x5, il := x6 }) rfl)
  clear hw cf1' cf2 Hm H6
  have hN : Calls Tryz.prog 35 #[.pointer (some ⟨r, 0, none⟩), .int .i64 2] w7 fun e w' => e = .returned (.int .i64 (rn (rt7 s0) 2)) ∧ RP w r pb b (rt8 s0) { p0 with op := x0, er := x1, ino := x2, wr := x3, at_ := x4, ik := x5, il := x6 } w' := H7.out.num 2 (Or.inr (Or.inl rfl))
  obtain ⟨x7, hx7⟩ : ∃ x, x = rn (rt7 s0) 2 := ⟨_, rfl⟩
  rw [← hx7] at hN
  have HX7 := Lib.hid hx7
  have HN := Lib.hid hN
  clear hN hx7
  go_wp2_with fail
  refine HN.out.mono ?_
  rintro e wm ⟨rfl, hm⟩
  have Hm := Lib.hid hm
  have cf := hm.at_ 26
  obtain ⟨cf1, cf2⟩ := cf
  have cf1' : wm.cell? ⟨pb, 26, none⟩ = some (.int .i64 p0.isz) := cf1
  clear hm HN cf1
  go_upto_region 8 with fail
  obtain ⟨w8, hw⟩ : ∃ u, u = wm.setCell ⟨pb, 26, none⟩ (.int .i64 x7) := ⟨_, rfl⟩
  rw [← hw]
  have H8 : Hid (RP w r pb b (rt8 s0) { p0 with op := x0, er := x1, ino := x2, wr := x3, at_ := x4, ik := x5, il := x6, isz := x7 } w8) := Lib.hid (by rw [hw]; exact Hm.out.set (p' := { p0 with op := x0, er := x1, ino := x2, wr := x3, at_ := x4, ik := x5, il := x6, isz := x7 }) rfl)
  clear hw cf1' cf2 Hm H7
  have hN : Calls Tryz.prog 35 #[.pointer (some ⟨r, 0, none⟩), .int .i64 1] w8 fun e w' => e = .returned (.int .i64 (rn (rt8 s0) 1)) ∧ RP w r pb b (rt9 s0) { p0 with op := x0, er := x1, ino := x2, wr := x3, at_ := x4, ik := x5, il := x6, isz := x7 } w' := H8.out.num 1 (Or.inl rfl)
  obtain ⟨x8, hx8⟩ : ∃ x, x = rn (rt8 s0) 1 := ⟨_, rfl⟩
  rw [← hx8] at hN
  have HX8 := Lib.hid hx8
  have HN := Lib.hid hN
  clear hN hx8
  go_wp2_with fail
  refine HN.out.mono ?_
  rintro e wm ⟨rfl, hm⟩
  have Hm := Lib.hid hm
  have cf := hm.at_ 28
  obtain ⟨cf1, cf2⟩ := cf
  have cf1' : wm.cell? ⟨pb, 28, none⟩ = some (.int .i64 p0.nk) := cf1
  clear hm HN cf1
  go_upto_region 9 with fail
  obtain ⟨w9, hw⟩ : ∃ u, u = wm.setCell ⟨pb, 28, none⟩ (.int .i64 x8) := ⟨_, rfl⟩
  rw [← hw]
  have H9 : Hid (RP w r pb b (rt9 s0) { p0 with op := x0, er := x1, ino := x2, wr := x3, at_ := x4, ik := x5, il := x6, isz := x7, nk := x8 } w9) := Lib.hid (by rw [hw]; exact Hm.out.set (p' := { p0 with op := x0, er := x1, ino := x2, wr := x3, at_ := x4, ik := x5, il := x6, isz := x7, nk := x8 }) rfl)
  clear hw cf1' cf2 Hm H8
  have hN : Calls Tryz.prog 35 #[.pointer (some ⟨r, 0, none⟩), .int .i64 1] w9 fun e w' => e = .returned (.int .i64 (rn (rt9 s0) 1)) ∧ RP w r pb b (rt10 s0) { p0 with op := x0, er := x1, ino := x2, wr := x3, at_ := x4, ik := x5, il := x6, isz := x7, nk := x8 } w' := H9.out.num 1 (Or.inl rfl)
  obtain ⟨x9, hx9⟩ : ∃ x, x = rn (rt9 s0) 1 := ⟨_, rfl⟩
  rw [← hx9] at hN
  have HX9 := Lib.hid hx9
  have HN := Lib.hid hN
  clear hN hx9
  go_wp2_with fail
  refine HN.out.mono ?_
  rintro e wm ⟨rfl, hm⟩
  have Hm := Lib.hid hm
  have cf := hm.at_ 29
  obtain ⟨cf1, cf2⟩ := cf
  have cf1' : wm.cell? ⟨pb, 29, none⟩ = some (.int .i64 p0.nl) := cf1
  clear hm HN cf1
  go_upto_region 10 with fail
  obtain ⟨w10, hw⟩ : ∃ u, u = wm.setCell ⟨pb, 29, none⟩ (.int .i64 x9) := ⟨_, rfl⟩
  rw [← hw]
  have H10 : Hid (RP w r pb b (rt10 s0) { p0 with op := x0, er := x1, ino := x2, wr := x3, at_ := x4, ik := x5, il := x6, isz := x7, nk := x8, nl := x9 } w10) := Lib.hid (by rw [hw]; exact Hm.out.set (p' := { p0 with op := x0, er := x1, ino := x2, wr := x3, at_ := x4, ik := x5, il := x6, isz := x7, nk := x8, nl := x9 }) rfl)
  clear hw cf1' cf2 Hm H9
  have hN : Calls Tryz.prog 35 #[.pointer (some ⟨r, 0, none⟩), .int .i64 2] w10 fun e w' => e = .returned (.int .i64 (rn (rt10 s0) 2)) ∧ RP w r pb b (rt11 s0) { p0 with op := x0, er := x1, ino := x2, wr := x3, at_ := x4, ik := x5, il := x6, isz := x7, nk := x8, nl := x9 } w' := H10.out.num 2 (Or.inr (Or.inl rfl))
  obtain ⟨x10, hx10⟩ : ∃ x, x = rn (rt10 s0) 2 := ⟨_, rfl⟩
  rw [← hx10] at hN
  have HX10 := Lib.hid hx10
  have HN := Lib.hid hN
  clear hN hx10
  go_wp2_with fail
  refine HN.out.mono ?_
  rintro e wm ⟨rfl, hm⟩
  have Hm := Lib.hid hm
  have cf := hm.at_ 30
  obtain ⟨cf1, cf2⟩ := cf
  have cf1' : wm.cell? ⟨pb, 30, none⟩ = some (.int .i64 p0.ns) := cf1
  clear hm HN cf1
  go_upto_region 11 with fail
  obtain ⟨w11, hw⟩ : ∃ u, u = wm.setCell ⟨pb, 30, none⟩ (.int .i64 x10) := ⟨_, rfl⟩
  rw [← hw]
  have H11 : Hid (RP w r pb b (rt11 s0) { p0 with op := x0, er := x1, ino := x2, wr := x3, at_ := x4, ik := x5, il := x6, isz := x7, nk := x8, nl := x9, ns := x10 } w11) := Lib.hid (by rw [hw]; exact Hm.out.set (p' := { p0 with op := x0, er := x1, ino := x2, wr := x3, at_ := x4, ik := x5, il := x6, isz := x7, nk := x8, nl := x9, ns := x10 }) rfl)
  clear hw cf1' cf2 Hm H10
  obtain ⟨p11, hp11⟩ : ∃ q : Pk, q = { p0 with op := x0, er := x1, ino := x2, wr := x3, at_ := x4, ik := x5, il := x6, isz := x7, nk := x8, nl := x9, ns := x10 } := ⟨_, rfl⟩
  have HFin11 : Hid (p11 = rtP0 s0 p0) := Lib.hid (by rw [hp11, HX0.out, HX1.out, HX2.out, HX3.out, HX4.out, HX5.out, HX6.out, HX7.out, HX8.out, HX9.out, HX10.out]; rfl)
  have HNv2 : Hid (p11.nv = .slice none 0 0) := Lib.hid (by rw [hp11]; exact HNv.out)
  obtain ⟨s11, hs11⟩ : ∃ q, q = rt11 s0 := ⟨_, rfl⟩
  rw [← hp11, ← hs11] at H11
  have HS11 := Lib.hid hs11
  clear hp11 hs11
  clear HX0 HX1 HX2 HX3 HX4 HX5 HX6 HX7 HX8 HX9 HX10 HNv
  go_upto_region 12 with fail
  go_loopw [71, 4] (fun z _ wr => ∃ i : Nat, z = .int .i64 i ∧ i ≤ 4 ∧ Hid (RP w r pb b (rsN i s11) (blkP i s11 p11) wr)) (fun z _ _ => 4 - (intOf z).toNat)
  case atStart => exact ⟨0, rfl, by omega, H11⟩
  case round =>
    obtain ⟨i, rfl, hi4, HR⟩ := hrel
    by_cases hlt : i < 4
    · have h1 : (i : Int) < 4 := by omega
      have h0 : (0 : Int) ≤ i := by omega
      have hN := (HR.out.apart (G := fun _ => False) (below_only (Below.refl _ wr).drew _) (fun _ e => e.elim) HLt.out).num 1 (Or.inl rfl)
      obtain ⟨x, hx⟩ : ∃ x, x = rn (rsN i s11) 1 := ⟨_, rfl⟩
      rw [← hx] at hN
      have HN := Lib.hid hN
      have HX := Lib.hid hx
      have HI := Lib.hid hlt
      clear hN hx hlt hi4
      go_upto_region 14 with fail
      refine wp_region_held_drew (S := (fun _ => True)) (by kernel_rfl) ?_ (fun hHeld => ?_)
      · exact trivial
      refine wpAnyH_take (i := 0) (oi := _) (v := ?_) rfl (by kernel_rfl) (by kernel_rfl) (by kernel_rfl) (fun _ _ _ h => h) (Or.inl ⟨by rfl, ?_⟩) (by assumption) ?_
      rotate_left
      · intro w hSw
        (try dsimp only at hSw)
        first | (go_simp; done) | (go_simp; with_reducible rfl)
      try simp only [List.getElem_toArray, List.getElem_cons_succ, List.getElem_cons_zero, Act.put, List.setIfInBounds_toArray, List.set_cons_zero, List.set_cons_succ]
      refine wpAnyH_take (i := 1) (oi := _) (v := ?_) rfl (by kernel_rfl) (by kernel_rfl) (by kernel_rfl) (fun _ _ _ h => h) (Or.inl ⟨by rfl, ?_⟩) (by assumption) ?_
      rotate_left
      · intro w hSw
        (try dsimp only at hSw)
        first | (go_simp; done) | (go_simp; with_reducible rfl)
      try simp only [List.getElem_toArray, List.getElem_cons_succ, List.getElem_cons_zero, Act.put, List.setIfInBounds_toArray, List.set_cons_zero, List.set_cons_succ]
      refine wpAnyH_take (i := 2) (oi := _) (v := ?_) rfl (by kernel_rfl) (by kernel_rfl) (by kernel_rfl) (fun _ _ _ h => h) (Or.inl ⟨by rfl, ?_⟩) (by assumption) ?_
      rotate_left
      · intro w hSw
        (try dsimp only at hSw)
        first | (go_simp; done) | (go_simp; with_reducible rfl)
      try simp only [List.getElem_toArray, List.getElem_cons_succ, List.getElem_cons_zero, Act.put, List.setIfInBounds_toArray, List.set_cons_zero, List.set_cons_succ]
      refine wpAnyH_take (i := 4) (oi := _) (v := ?_) rfl (by kernel_rfl) (by kernel_rfl) (by kernel_rfl) (fun _ _ _ h => h) (Or.inl ⟨by rfl, ?_⟩) (by assumption) ?_
      rotate_left
      · intro w hSw
        (try dsimp only at hSw)
        first | (go_simp; done) | (go_simp; with_reducible rfl)
      try simp only [List.getElem_toArray, List.getElem_cons_succ, List.getElem_cons_zero, Act.put, List.setIfInBounds_toArray, List.set_cons_zero, List.set_cons_succ]
      refine wpAnyH_take (i := 5) (oi := _) (v := ?_) rfl (by kernel_rfl) (by kernel_rfl) (by kernel_rfl) (fun _ _ _ h => h) (Or.inl ⟨by rfl, ?_⟩) (by assumption) ?_
      rotate_left
      · intro w hSw
        (try dsimp only at hSw)
        first | (go_simp; done) | (go_simp; with_reducible rfl)
      try simp only [List.getElem_toArray, List.getElem_cons_succ, List.getElem_cons_zero, Act.put, List.setIfInBounds_toArray, List.set_cons_zero, List.set_cons_succ]
      refine wpAnyH_take (i := 6) (oi := _) (v := ?_) rfl (by kernel_rfl) (by kernel_rfl) (by kernel_rfl) (fun _ _ _ h => h) (Or.inl ⟨by rfl, ?_⟩) (by assumption) ?_
      rotate_left
      · intro w hSw
        (try dsimp only at hSw)
        first | (go_simp; done) | (go_simp; with_reducible rfl)
      try simp only [List.getElem_toArray, List.getElem_cons_succ, List.getElem_cons_zero, Act.put, List.setIfInBounds_toArray, List.set_cons_zero, List.set_cons_succ]
      refine wpAnyH_ready (rs := [3]) (by kernel_rfl) (by simp) ?_
      refine AllReadyH.cons (o := _) rfl (fun K hK => ?_) AllReadyH.nil
      go_simp
      refine HN.out.mono ?_
      rintro e wm ⟨rfl, hm⟩
      have Hm := Lib.hid hm
      clear hm
      try dsimp only
      refine hK.out _ _ trivial (fun hHeld => ?_)
      clear hK K
      try simp only [List.getElem_toArray, List.getElem_cons_succ, List.getElem_cons_zero, Act.put, List.setIfInBounds_toArray, List.set_cons_zero, List.set_cons_succ]
      refine wpAnyH_take (i := 7) (oi := _) (v := ?_) rfl (by kernel_rfl) (by kernel_rfl) (by kernel_rfl) (fun _ _ _ h => h) (Or.inl ⟨by rfl, ?_⟩) (by assumption) ?_
      rotate_left
      · intro w hSw
        (try dsimp only at hSw)
        first | (go_simp; done) | (go_simp; with_reducible rfl)
      try simp only [List.getElem_toArray, List.getElem_cons_succ, List.getElem_cons_zero, Act.put, List.setIfInBounds_toArray, List.set_cons_zero, List.set_cons_succ]
      have hcf := Hm.out.at_ (31 + i)
      have hfz := hcf.2
      obtain ⟨z, hz⟩ : ∃ z, wm.cell? ⟨pb, 31 + i, none⟩ = some z := ⟨_, hcf.1.trans (Array.getElem?_eq_getElem (show 31 + i < 43 by have := HI.out; omega))⟩
      clear hcf
      refine wpAnyH_ready (rs := [8]) (by kernel_rfl) (by simp) ?_
      refine AllReadyH.cons (o := _) rfl (fun K hK => ?_) AllReadyH.nil
      go_simp
      try dsimp only
      refine hK.out _ _ trivial (fun hHeld => ?_)
      clear hK K
      try simp only [List.getElem_toArray, List.getElem_cons_succ, List.getElem_cons_zero, Act.put, List.setIfInBounds_toArray, List.set_cons_zero, List.set_cons_succ]
      refine wpAnyH_done (by kernel_rfl) ?_ _
      (try simp only [Exit.then])
      clear hz hfz
      go_wp2
      go_roundw
      case rel => exact ⟨i + 1, by go_num, by have := HI.out; omega, Lib.hid (by have := Hm.out.set (setB_cells (blkP i s11 p11) HI.out x); rw [rsN_succ, blkP_succ, ← HX.out]; exact this)⟩
      case measure => have := HI.out; simp [intOf]; omega
    · obtain rfl : i = 4 := by omega
      clear hlt hi4
      obtain ⟨s12, hs12⟩ : ∃ s, s = rsN 4 s11 := ⟨_, rfl⟩
      obtain ⟨p12, hp12⟩ : ∃ p, p = blkP 4 s11 p11 := ⟨_, rfl⟩
      rw [← hs12, ← hp12] at HR
      have hnv12 : p12.nv = .slice none 0 0 := by rw [hp12, blkP_nv]; exact HNv2.out
      have hN : Calls Tryz.prog 35 #[.pointer (some ⟨r, 0, none⟩), .int .i64 1] wr fun e w' => e = .returned (.int .i64 (rn s12 1)) ∧ RP w r pb b (rs s12 1) p12 w' := HR.out.num 1 (Or.inl rfl)
      obtain ⟨n, hn⟩ := rn_ge s12 1
      obtain ⟨s13, hs13⟩ : ∃ s, s = rs s12 1 := ⟨_, rfl⟩
      rw [hn, ← hs13] at hN
      have Hn := Lib.hid hn
      have HS12 := Lib.hid hs12
      have HS13 := Lib.hid hs13
      have HP12 := Lib.hid hp12
      have HNv12 := Lib.hid hnv12
      have HN := Lib.hid hN
      clear hs12 hp12 hn hs13 hN hnv12
      go_upto_region 17 with ((with_reducible refine HN.out.mono ?_); rintro e wm ⟨rfl, hm⟩; have Hm := Lib.hid hm; clear hm)
      have co := Hm.out.odd_at
      obtain ⟨co1, co2⟩ := co
      obtain ⟨od, hod⟩ : ∃ o, o = s13.2 := ⟨_, rfl⟩
      rw [← hod] at co1
      have HOd0 := Lib.hid hod
      have HOd := Lib.hid hod
      clear hod
      have hq16 : decide ((n : Int) > 16) = decide (16 < n) := by rw [decide_eq_decide]; omega
      have HW : Hid (∀ v : Bool, v = (od || decide (16 < n)) → RP w r pb b (s13.1, od || decide (16 < n)) p12 (wm.setCell ⟨r, 1, none⟩ (.bool v))) := Lib.hid fun v hv => by rw [hv]; exact Hm.out.odd _
      obtain ⟨s14, hs14⟩ : ∃ s : Rs, s = (s13.1, od || decide (16 < n)) := ⟨_, rfl⟩
      rw [← hs14] at HW
      have H14 : Hid (s14.2 = false → n ≤ 16) := Lib.hid fun e => by rw [hs14] at e; simp at e; omega
      have HS14 := Lib.hid hs14
      clear hs14
      go_cut [] from 85 to 95 (fun wx => Hid (RP w r pb b s14 p12 wx))
      case first =>
        rcases bdic od with h | h
        · subst h
          go_upto_region 19 with fail
          go_meet
          exact Lib.hid (HW.out _ (by simp))
        · subst h
          go_upto_region 19 with fail
          go_meet
          exact Lib.hid (HW.out _ (by simp))
      case rest =>
        have H15 := hcut
        clear hcut HW co1 co2 HOd hq16
        obtain ⟨wy, hwy⟩ : ∃ v, v = wc := ⟨_, rfl⟩
        subst hwy
        go_upto_region 19 with fail
        go_loopw [6] (fun z wr => ∃ i : Nat, z = .int .i64 i ∧ i ≤ n ∧ Hid (∃ (s : Rs) (u : Value) (xs : List ByteArray), RP w r pb b s (setNv p12 u) wr ∧ wr.ownsRow w.heap.size 9 1 u xs.length (xs.map .string) ∧ rnm (n - i) s = rnm n s14 ∧ xs.length = i ∧ (s.2 = false → n ≤ 16))) (fun z _ => n - (intOf z).toNat)
        case atStart => exact ⟨0, rfl, Nat.zero_le _, Lib.hid ⟨s14, .slice none 0 0, [], by have := H15.out; rw [show setNv p12 (.slice none 0 0) = p12 by rw [← HNv12.out]; rfl]; exact this, World.ownsRow_nil _ _ _ _, rfl, rfl, H14.out⟩⟩
        case round =>
          obtain ⟨i, rfl, hile, HX⟩ := hrel
          obtain ⟨s, u, xs, hR, hrow, hst, hxl, h16⟩ := HX.out
          clear HX
          have co := hR.odd_at
          obtain ⟨co1, co2⟩ := co
          obtain ⟨od, hod⟩ : ∃ o, o = s.2 := ⟨_, rfl⟩
          rw [← hod] at co1
          have HR := Lib.hid hR
          have HRow := Lib.hid hrow
          have HSt := Lib.hid hst
          have H16 := Lib.hid h16
          have Hxl := Lib.hid hxl
          have HOd := Lib.hid hod
          have HFin : Hid (rnm (n - i) s = rtE s0) := Lib.hid (by
            rw [hst, HS14.out, rtE, rtN, rtM, ← HS11.out, ← HS12.out, Hn.out, ← HS13.out, HOd0.out, show decide (16 < (n : Int)) = decide (16 < n) by rw [decide_eq_decide]; omega]
            rfl)
          have HEnd : Hid (∀ s2 : Rs, s2 = rtE s0 → RP w r pb b s2 (setNv p12 u) wr → ∃ u, (∃ A m c, u = Value.slice A m c) ∧ RP w r pb b (rtE s0) (setNv (rtP s0 p0) u) wr) := Lib.hid fun s2 e h => ⟨u, rv_sliceS hrow, by rw [← e, rtP, ← HS11.out, ← HFin11.out, ← HP12.out]; exact h⟩
          obtain ⟨A, m, c, hv⟩ := rv_sliceS hrow
          clear hod hR hrow hst h16 hxl
          by_cases hin : i < n
          · have h1 : (i : Int) < n := by omega
            rcases bdic od with h | h
            · subst h
              have HI := Lib.hid hin
              clear hin
              subst hv
              have hRd := HR.out.apart (w' := wr.drew) (G := fun _ => False) (below_only (Below.refl _ wr).drew _) (fun _ e => e.elim) HLt.out
              have hT := hRd.text2 1 12 (Or.inl rfl) (by omega)
              have HKeep : Hid (∀ W, Only (fun q => q = r) wr.drew W → (W.alloc (.cells #[.string (tn s 1 12)] 9)).ownsRow w.heap.size 9 1 (.slice A m c) xs.length (xs.map .string)) := Lib.hid fun W hO => row_keep HRow.out fun k hk => by
                obtain ⟨h1, h2⟩ := row_ge HRow.out hk
                have h3 : W.heap[k]? = wr.heap[k]? := hO.block k h2 (fun e => by have := HLt.out; omega)
                rw [← h3]
                exact heap_alloc_old W _ (Nat.lt_of_lt_of_le h2 hO.size)
              have HStep : Hid (rnm (n - (i + 1)) (ts s 1 12) = rnm n s14) := Lib.hid (by
                have := HSt.out
                rw [show n - i = (n - (i + 1)) + 1 by have := HI.out; omega, rnm, if_neg (by rw [← HOd.out]; simp)] at this
                exact this)
              have HT : Hid (Calls Tryz.prog 71 #[.pointer (some ⟨r, 0, none⟩), .int .i64 1, .int .i64 12] wr.drew fun e w' => e = .returned (.string (tn s 1 12)) ∧ RP w r pb b (ts s 1 12) (setNv p12 (.slice A m c)) w' ∧ Only (fun q => q = r) wr.drew w') := Lib.hid hT
              have d23 : wr.drew.cell? ⟨pb, 23, none⟩ = some (.slice A m c) := (hRd.at_ 23).1
              have hn16 : n ≤ 16 := H16.out HOd.out.symm
              have hx16 : xs.length ≤ 16 := by have := Hxl.out; have := HI.out; have := H16.out HOd.out.symm; omega
              clear hT hRd
              go_upto_region 21 with fail
              refine wp_region_held_drew (S := (fun _ => True)) (by kernel_rfl) ?_ (fun hHeld => ?_)
              · exact trivial
              refine wpAnyH_take (i := 0) (oi := _) (v := ?_) rfl (by kernel_rfl) (by kernel_rfl) (by kernel_rfl) (fun _ _ _ h => h) (Or.inl ⟨by rfl, ?_⟩) (by assumption) ?_
              rotate_left
              · intro w hSw
                (try dsimp only at hSw)
                first | (go_simp; done) | (go_simp; with_reducible rfl)
              try simp only [List.getElem_toArray, List.getElem_cons_succ, List.getElem_cons_zero, Act.put, List.setIfInBounds_toArray, List.set_cons_zero, List.set_cons_succ]
              refine wpAnyH_take (i := 1) (oi := _) (v := ?_) rfl (by kernel_rfl) (by kernel_rfl) (by kernel_rfl) (fun _ _ _ h => h) (Or.inl ⟨by rfl, ?_⟩) (by assumption) ?_
              rotate_left
              · intro w hSw
                (try dsimp only at hSw)
                first | (go_simp; done) | (go_simp; with_reducible rfl)
              try simp only [List.getElem_toArray, List.getElem_cons_succ, List.getElem_cons_zero, Act.put, List.setIfInBounds_toArray, List.set_cons_zero, List.set_cons_succ]
              refine wpAnyH_take (i := 2) (oi := _) (v := ?_) rfl (by kernel_rfl) (by kernel_rfl) (by kernel_rfl) (fun _ _ _ h => h) (Or.inl ⟨by rfl, ?_⟩) (by assumption) ?_
              rotate_left
              · intro w hSw
                (try dsimp only at hSw)
                first | (go_simp; done) | (go_simp; with_reducible rfl)
              try simp only [List.getElem_toArray, List.getElem_cons_succ, List.getElem_cons_zero, Act.put, List.setIfInBounds_toArray, List.set_cons_zero, List.set_cons_succ]
              refine wpAnyH_take (i := 3) (oi := _) (v := ?_) rfl (by kernel_rfl) (by kernel_rfl) (by kernel_rfl) (fun _ _ _ h => h) (Or.inl ⟨by rfl, ?_⟩) (by assumption) ?_
              rotate_left
              · intro w hSw
                (try dsimp only at hSw)
                first | (go_simp; done) | (go_simp; with_reducible rfl)
              try simp only [List.getElem_toArray, List.getElem_cons_succ, List.getElem_cons_zero, Act.put, List.setIfInBounds_toArray, List.set_cons_zero, List.set_cons_succ]
              refine wpAnyH_take (i := 4) (oi := _) (v := ?_) rfl (by kernel_rfl) (by kernel_rfl) (by kernel_rfl) (fun _ _ _ h => h) (Or.inl ⟨by rfl, ?_⟩) (by assumption) ?_
              rotate_left
              · intro w hSw
                (try dsimp only at hSw)
                first | (go_simp; done) | (go_simp; with_reducible rfl)
              try simp only [List.getElem_toArray, List.getElem_cons_succ, List.getElem_cons_zero, Act.put, List.setIfInBounds_toArray, List.set_cons_zero, List.set_cons_succ]
              refine wpAnyH_take (i := 6) (oi := _) (v := ?_) rfl (by kernel_rfl) (by kernel_rfl) (by kernel_rfl) (fun _ _ _ h => h) (Or.inl ⟨by rfl, ?_⟩) (by assumption) ?_
              rotate_left
              · intro w hSw
                (try dsimp only at hSw)
                first | (go_simp; done) | (go_simp; with_reducible rfl)
              try simp only [List.getElem_toArray, List.getElem_cons_succ, List.getElem_cons_zero, Act.put, List.setIfInBounds_toArray, List.set_cons_zero, List.set_cons_succ]
              refine wpAnyH_ready (rs := [5, 7]) (by kernel_rfl) (by simp) ?_
              refine AllReadyH.cons (o := _) rfl (fun K hK => ?_) (AllReadyH.cons (o := _) rfl (fun K hK => ?_) AllReadyH.nil)
              · go_simp
                (try dsimp only)
                refine hK.out _ _ trivial (fun hHeld => ?_)
                clear hK K
                (try simp only [List.getElem_toArray, List.getElem_cons_succ, List.getElem_cons_zero, Act.put, List.setIfInBounds_toArray, List.set_cons_zero, List.set_cons_succ])
                refine wpAnyH_ready (rs := [7]) (by kernel_rfl) (by simp) ?_
                refine AllReadyH.cons (o := _) rfl (fun K hK => ?_) AllReadyH.nil
                go_simp
                refine HT.out.mono ?_
                rintro e wm ⟨rfl, hm, hOm⟩
                have Hm := Lib.hid hm
                have hrow2 := HKeep.out wm hOm
                have HRow2 := Lib.hid hrow2
                have HBm := Lib.hid hm.only.size
                have HNews : Hid (∀ j y, [Value.string (tn s 1 12)][j]? = some y → (wm.alloc (.cells #[.string (tn s 1 12)] 9)).cell? ((⟨wm.heap.size, 0, none⟩ : Addr).add j) = some y) := Lib.hid (cells_new1 wm _ _)
                have d23 : wm.cell? ⟨pb, 23, none⟩ = some (.slice A m c) := (hm.at_ 23).1
                have d23b : (wm.alloc (.cells #[.string (tn s 1 12)] 9)).cell? ⟨pb, 23, none⟩ = some (.slice A m c) := (World.cell?_of_block (a := ⟨pb, 23, none⟩) (heap_alloc_old wm _ (lt_get hm.pk))).trans d23
                clear hm hOm hrow2
                (try dsimp only)
                refine hK.out _ _ trivial (fun hHeld => ?_)
                clear hK K
                (try simp only [List.getElem_toArray, List.getElem_cons_succ, List.getElem_cons_zero, Act.put, List.setIfInBounds_toArray, List.set_cons_zero, List.set_cons_succ])
                refine wpAnyH_ready (rs := [8]) (by kernel_rfl) (by simp) ?_
                refine AllReadyH.cons (o := _) rfl (fun K hK => ?_) AllReadyH.nil
                go_simp
                (try dsimp only)
                refine hK.out _ _ trivial (fun hHeld => ?_)
                clear hK K
                (try simp only [List.getElem_toArray, List.getElem_cons_succ, List.getElem_cons_zero, Act.put, List.setIfInBounds_toArray, List.set_cons_zero, List.set_cons_succ])
                refine wpAnyH_ready (rs := [9]) (by kernel_rfl) (by simp) ?_
                refine AllReadyH.cons (o := _) rfl (fun K hK => ?_) AllReadyH.nil
                refine wp_append_atK (.tmp 113) (.tmp 116) 31 rfl w.heap.size 9 i0 _ 1 16 Tryz.underlying31 hi hz0 hz1 hz2 rfl (by decide) (.slice A m c) xs.length (xs.map .string) rfl (HRow2.out) ⟨wm.heap.size, 0, none⟩ 1 1 [.string (tn s 1 12)] rfl rfl HNews.out (by intro y hy; simp only [List.mem_singleton] at hy; subst hy; rfl) (by unfold maxLen; omega) (by omega) (by simp; have := HBm.out; omega) ?_
                intro v5 w5 hown5 hgr5 hloc5
                obtain ⟨A5, m5, c5, hv5⟩ := rv_sliceS hown5
                have hO1 : Only (fun q => w.heap.size ≤ q) wm (wm.alloc (.cells #[.string (tn s 1 12)] 9)) := below_only ((Below.refl wm.heap.size wm).alloc (Nat.le_refl _) _) _
                have hO2 : Only (fun q => w.heap.size ≤ q) (wm.alloc (.cells #[.string (tn s 1 12)] 9)) w5 := grown_only hgr5 fun k e => (row_ge HRow2.out e).1
                have h5 := Hm.out.apart (hO1.trans hO2 fun _ _ e => e) (fun _ h => h) HLt.out
                have H5 := Lib.hid h5
                have HRow5 : Hid ((w5.setCell ⟨pb, 23, none⟩ v5).ownsRow w.heap.size 9 1 v5 (xs.length + 1) (xs.map .string ++ [.string (tn s 1 12)])) := Lib.hid (row_keep hown5 fun k hk => Go.heap_setCell_other w5 ⟨pb, 23, none⟩ k v5 fun e => by have h1 := (row_ge hown5 hk).1; have h2 := HLt.out.2.1; have h3 : k = pb := e; omega)
                have c23 : w5.cell? ⟨pb, 23, none⟩ = some (.slice A m c) := (h5.at_ 23).1
                have f23 := (h5.at_ 23).2
                subst hv5
                clear hown5 hgr5 hloc5 hO1 hO2 h5 d23 d23b
                (try dsimp only)
                refine hK.out _ _ trivial (fun hHeld => ?_)
                clear hK K
                (try simp only [List.getElem_toArray, List.getElem_cons_succ, List.getElem_cons_zero, Act.put, List.setIfInBounds_toArray, List.set_cons_zero, List.set_cons_succ])
                refine wpAnyH_take (i := 10) (oi := _) (v := ?_) rfl (by kernel_rfl) (by kernel_rfl) (by kernel_rfl) (fun _ _ _ h => h) (Or.inl ⟨by rfl, ?_⟩) (by assumption) ?_
                rotate_left
                · intro w hSw
                  (try dsimp only at hSw)
                  first | (go_simp; done) | (go_simp; with_reducible rfl)
                try simp only [List.getElem_toArray, List.getElem_cons_succ, List.getElem_cons_zero, Act.put, List.setIfInBounds_toArray, List.set_cons_zero, List.set_cons_succ]
                refine wpAnyH_take (i := 11) (oi := _) (v := ?_) rfl (by kernel_rfl) (by kernel_rfl) (by kernel_rfl) (fun _ _ _ h => h) (Or.inl ⟨by rfl, ?_⟩) (by assumption) ?_
                rotate_left
                · intro w hSw
                  (try dsimp only at hSw)
                  first | (go_simp; done) | (go_simp; with_reducible rfl)
                try simp only [List.getElem_toArray, List.getElem_cons_succ, List.getElem_cons_zero, Act.put, List.setIfInBounds_toArray, List.set_cons_zero, List.set_cons_succ]
                refine wpAnyH_take (i := 12) (oi := _) (v := ?_) rfl (by kernel_rfl) (by kernel_rfl) (by kernel_rfl) (fun _ _ _ h => h) (Or.inl ⟨by rfl, ?_⟩) (by assumption) ?_
                rotate_left
                · intro w hSw
                  (try dsimp only at hSw)
                  first | (go_simp; done) | (go_simp; with_reducible rfl)
                try simp only [List.getElem_toArray, List.getElem_cons_succ, List.getElem_cons_zero, Act.put, List.setIfInBounds_toArray, List.set_cons_zero, List.set_cons_succ]
                refine wpAnyH_ready (rs := [13]) (by kernel_rfl) (by simp) ?_
                refine AllReadyH.cons (o := _) rfl (fun K hK => ?_) AllReadyH.nil
                go_simp
                try dsimp only
                refine hK.out _ _ trivial (fun hHeld => ?_)
                clear hK K
                try simp only [List.getElem_toArray, List.getElem_cons_succ, List.getElem_cons_zero, Act.put, List.setIfInBounds_toArray, List.set_cons_zero, List.set_cons_succ]
                refine wpAnyH_done (by kernel_rfl) ?_ _
                (try simp only [Exit.then])
                clear c23 f23
                go_wp2
                go_roundw
                case rel => exact ⟨i + 1, by go_num, by omega, Lib.hid ⟨ts s 1 12, .slice A5 m5 c5, xs ++ [tn s 1 12], H5.out.set (p' := setNv p12 (.slice A5 m5 c5)) rfl, by simpa using HRow5.out, HStep.out, by rw [List.length_append, Hxl.out]; rfl, fun _ => H16.out HOd.out.symm⟩⟩
                case measure => have := HI.out; simp [intOf]; omega
              · go_simp
                refine HT.out.mono ?_
                rintro e wm ⟨rfl, hm, hOm⟩
                have Hm := Lib.hid hm
                have hrow2 := HKeep.out wm hOm
                have HRow2 := Lib.hid hrow2
                have HBm := Lib.hid hm.only.size
                have HNews : Hid (∀ j y, [Value.string (tn s 1 12)][j]? = some y → (wm.alloc (.cells #[.string (tn s 1 12)] 9)).cell? ((⟨wm.heap.size, 0, none⟩ : Addr).add j) = some y) := Lib.hid (cells_new1 wm _ _)
                have d23 : wm.cell? ⟨pb, 23, none⟩ = some (.slice A m c) := (hm.at_ 23).1
                have d23b : (wm.alloc (.cells #[.string (tn s 1 12)] 9)).cell? ⟨pb, 23, none⟩ = some (.slice A m c) := (World.cell?_of_block (a := ⟨pb, 23, none⟩) (heap_alloc_old wm _ (lt_get hm.pk))).trans d23
                clear hm hOm hrow2
                (try dsimp only)
                refine hK.out _ _ trivial (fun hHeld => ?_)
                clear hK K
                (try simp only [List.getElem_toArray, List.getElem_cons_succ, List.getElem_cons_zero, Act.put, List.setIfInBounds_toArray, List.set_cons_zero, List.set_cons_succ])
                refine wpAnyH_ready (rs := [5, 8]) (by kernel_rfl) (by simp) ?_
                refine AllReadyH.cons (o := _) rfl (fun K hK => ?_) (AllReadyH.cons (o := _) rfl (fun K hK => ?_) AllReadyH.nil)
                · go_simp
                  (try dsimp only)
                  refine hK.out _ _ trivial (fun hHeld => ?_)
                  clear hK K
                  (try simp only [List.getElem_toArray, List.getElem_cons_succ, List.getElem_cons_zero, Act.put, List.setIfInBounds_toArray, List.set_cons_zero, List.set_cons_succ])
                  refine wpAnyH_ready (rs := [8]) (by kernel_rfl) (by simp) ?_
                  refine AllReadyH.cons (o := _) rfl (fun K hK => ?_) AllReadyH.nil
                  go_simp
                  (try dsimp only)
                  refine hK.out _ _ trivial (fun hHeld => ?_)
                  clear hK K
                  (try simp only [List.getElem_toArray, List.getElem_cons_succ, List.getElem_cons_zero, Act.put, List.setIfInBounds_toArray, List.set_cons_zero, List.set_cons_succ])
                  refine wpAnyH_ready (rs := [9]) (by kernel_rfl) (by simp) ?_
                  refine AllReadyH.cons (o := _) rfl (fun K hK => ?_) AllReadyH.nil
                  refine wp_append_atK (.tmp 113) (.tmp 116) 31 rfl w.heap.size 9 i0 _ 1 16 Tryz.underlying31 hi hz0 hz1 hz2 rfl (by decide) (.slice A m c) xs.length (xs.map .string) rfl (HRow2.out) ⟨wm.heap.size, 0, none⟩ 1 1 [.string (tn s 1 12)] rfl rfl HNews.out (by intro y hy; simp only [List.mem_singleton] at hy; subst hy; rfl) (by unfold maxLen; omega) (by omega) (by simp; have := HBm.out; omega) ?_
                  intro v5 w5 hown5 hgr5 hloc5
                  obtain ⟨A5, m5, c5, hv5⟩ := rv_sliceS hown5
                  have hO1 : Only (fun q => w.heap.size ≤ q) wm (wm.alloc (.cells #[.string (tn s 1 12)] 9)) := below_only ((Below.refl wm.heap.size wm).alloc (Nat.le_refl _) _) _
                  have hO2 : Only (fun q => w.heap.size ≤ q) (wm.alloc (.cells #[.string (tn s 1 12)] 9)) w5 := grown_only hgr5 fun k e => (row_ge HRow2.out e).1
                  have h5 := Hm.out.apart (hO1.trans hO2 fun _ _ e => e) (fun _ h => h) HLt.out
                  have H5 := Lib.hid h5
                  have HRow5 : Hid ((w5.setCell ⟨pb, 23, none⟩ v5).ownsRow w.heap.size 9 1 v5 (xs.length + 1) (xs.map .string ++ [.string (tn s 1 12)])) := Lib.hid (row_keep hown5 fun k hk => Go.heap_setCell_other w5 ⟨pb, 23, none⟩ k v5 fun e => by have h1 := (row_ge hown5 hk).1; have h2 := HLt.out.2.1; have h3 : k = pb := e; omega)
                  have c23 : w5.cell? ⟨pb, 23, none⟩ = some (.slice A m c) := (h5.at_ 23).1
                  have f23 := (h5.at_ 23).2
                  subst hv5
                  clear hown5 hgr5 hloc5 hO1 hO2 h5 d23 d23b
                  (try dsimp only)
                  refine hK.out _ _ trivial (fun hHeld => ?_)
                  clear hK K
                  (try simp only [List.getElem_toArray, List.getElem_cons_succ, List.getElem_cons_zero, Act.put, List.setIfInBounds_toArray, List.set_cons_zero, List.set_cons_succ])
                  refine wpAnyH_take (i := 10) (oi := _) (v := ?_) rfl (by kernel_rfl) (by kernel_rfl) (by kernel_rfl) (fun _ _ _ h => h) (Or.inl ⟨by rfl, ?_⟩) (by assumption) ?_
                  rotate_left
                  · intro w hSw
                    (try dsimp only at hSw)
                    first | (go_simp; done) | (go_simp; with_reducible rfl)
                  try simp only [List.getElem_toArray, List.getElem_cons_succ, List.getElem_cons_zero, Act.put, List.setIfInBounds_toArray, List.set_cons_zero, List.set_cons_succ]
                  refine wpAnyH_take (i := 11) (oi := _) (v := ?_) rfl (by kernel_rfl) (by kernel_rfl) (by kernel_rfl) (fun _ _ _ h => h) (Or.inl ⟨by rfl, ?_⟩) (by assumption) ?_
                  rotate_left
                  · intro w hSw
                    (try dsimp only at hSw)
                    first | (go_simp; done) | (go_simp; with_reducible rfl)
                  try simp only [List.getElem_toArray, List.getElem_cons_succ, List.getElem_cons_zero, Act.put, List.setIfInBounds_toArray, List.set_cons_zero, List.set_cons_succ]
                  refine wpAnyH_take (i := 12) (oi := _) (v := ?_) rfl (by kernel_rfl) (by kernel_rfl) (by kernel_rfl) (fun _ _ _ h => h) (Or.inl ⟨by rfl, ?_⟩) (by assumption) ?_
                  rotate_left
                  · intro w hSw
                    (try dsimp only at hSw)
                    first | (go_simp; done) | (go_simp; with_reducible rfl)
                  try simp only [List.getElem_toArray, List.getElem_cons_succ, List.getElem_cons_zero, Act.put, List.setIfInBounds_toArray, List.set_cons_zero, List.set_cons_succ]
                  refine wpAnyH_ready (rs := [13]) (by kernel_rfl) (by simp) ?_
                  refine AllReadyH.cons (o := _) rfl (fun K hK => ?_) AllReadyH.nil
                  go_simp
                  try dsimp only
                  refine hK.out _ _ trivial (fun hHeld => ?_)
                  clear hK K
                  try simp only [List.getElem_toArray, List.getElem_cons_succ, List.getElem_cons_zero, Act.put, List.setIfInBounds_toArray, List.set_cons_zero, List.set_cons_succ]
                  refine wpAnyH_done (by kernel_rfl) ?_ _
                  (try simp only [Exit.then])
                  clear c23 f23
                  go_wp2
                  go_roundw
                  case rel => exact ⟨i + 1, by go_num, by omega, Lib.hid ⟨ts s 1 12, .slice A5 m5 c5, xs ++ [tn s 1 12], H5.out.set (p' := setNv p12 (.slice A5 m5 c5)) rfl, by simpa using HRow5.out, HStep.out, by rw [List.length_append, Hxl.out]; rfl, fun _ => H16.out HOd.out.symm⟩⟩
                  case measure => have := HI.out; simp [intOf]; omega
                · go_simp
                  (try dsimp only)
                  refine hK.out _ _ trivial (fun hHeld => ?_)
                  clear hK K
                  (try simp only [List.getElem_toArray, List.getElem_cons_succ, List.getElem_cons_zero, Act.put, List.setIfInBounds_toArray, List.set_cons_zero, List.set_cons_succ])
                  refine wpAnyH_ready (rs := [5]) (by kernel_rfl) (by simp) ?_
                  refine AllReadyH.cons (o := _) rfl (fun K hK => ?_) AllReadyH.nil
                  go_simp
                  (try dsimp only)
                  refine hK.out _ _ trivial (fun hHeld => ?_)
                  clear hK K
                  (try simp only [List.getElem_toArray, List.getElem_cons_succ, List.getElem_cons_zero, Act.put, List.setIfInBounds_toArray, List.set_cons_zero, List.set_cons_succ])
                  refine wpAnyH_ready (rs := [9]) (by kernel_rfl) (by simp) ?_
                  refine AllReadyH.cons (o := _) rfl (fun K hK => ?_) AllReadyH.nil
                  refine wp_append_atK (.tmp 113) (.tmp 116) 31 rfl w.heap.size 9 i0 _ 1 16 Tryz.underlying31 hi hz0 hz1 hz2 rfl (by decide) (.slice A m c) xs.length (xs.map .string) rfl (HRow2.out) ⟨wm.heap.size, 0, none⟩ 1 1 [.string (tn s 1 12)] rfl rfl HNews.out (by intro y hy; simp only [List.mem_singleton] at hy; subst hy; rfl) (by unfold maxLen; omega) (by omega) (by simp; have := HBm.out; omega) ?_
                  intro v5 w5 hown5 hgr5 hloc5
                  obtain ⟨A5, m5, c5, hv5⟩ := rv_sliceS hown5
                  have hO1 : Only (fun q => w.heap.size ≤ q) wm (wm.alloc (.cells #[.string (tn s 1 12)] 9)) := below_only ((Below.refl wm.heap.size wm).alloc (Nat.le_refl _) _) _
                  have hO2 : Only (fun q => w.heap.size ≤ q) (wm.alloc (.cells #[.string (tn s 1 12)] 9)) w5 := grown_only hgr5 fun k e => (row_ge HRow2.out e).1
                  have h5 := Hm.out.apart (hO1.trans hO2 fun _ _ e => e) (fun _ h => h) HLt.out
                  have H5 := Lib.hid h5
                  have HRow5 : Hid ((w5.setCell ⟨pb, 23, none⟩ v5).ownsRow w.heap.size 9 1 v5 (xs.length + 1) (xs.map .string ++ [.string (tn s 1 12)])) := Lib.hid (row_keep hown5 fun k hk => Go.heap_setCell_other w5 ⟨pb, 23, none⟩ k v5 fun e => by have h1 := (row_ge hown5 hk).1; have h2 := HLt.out.2.1; have h3 : k = pb := e; omega)
                  have c23 : w5.cell? ⟨pb, 23, none⟩ = some (.slice A m c) := (h5.at_ 23).1
                  have f23 := (h5.at_ 23).2
                  subst hv5
                  clear hown5 hgr5 hloc5 hO1 hO2 h5 d23 d23b
                  (try dsimp only)
                  refine hK.out _ _ trivial (fun hHeld => ?_)
                  clear hK K
                  (try simp only [List.getElem_toArray, List.getElem_cons_succ, List.getElem_cons_zero, Act.put, List.setIfInBounds_toArray, List.set_cons_zero, List.set_cons_succ])
                  refine wpAnyH_take (i := 10) (oi := _) (v := ?_) rfl (by kernel_rfl) (by kernel_rfl) (by kernel_rfl) (fun _ _ _ h => h) (Or.inl ⟨by rfl, ?_⟩) (by assumption) ?_
                  rotate_left
                  · intro w hSw
                    (try dsimp only at hSw)
                    first | (go_simp; done) | (go_simp; with_reducible rfl)
                  try simp only [List.getElem_toArray, List.getElem_cons_succ, List.getElem_cons_zero, Act.put, List.setIfInBounds_toArray, List.set_cons_zero, List.set_cons_succ]
                  refine wpAnyH_take (i := 11) (oi := _) (v := ?_) rfl (by kernel_rfl) (by kernel_rfl) (by kernel_rfl) (fun _ _ _ h => h) (Or.inl ⟨by rfl, ?_⟩) (by assumption) ?_
                  rotate_left
                  · intro w hSw
                    (try dsimp only at hSw)
                    first | (go_simp; done) | (go_simp; with_reducible rfl)
                  try simp only [List.getElem_toArray, List.getElem_cons_succ, List.getElem_cons_zero, Act.put, List.setIfInBounds_toArray, List.set_cons_zero, List.set_cons_succ]
                  refine wpAnyH_take (i := 12) (oi := _) (v := ?_) rfl (by kernel_rfl) (by kernel_rfl) (by kernel_rfl) (fun _ _ _ h => h) (Or.inl ⟨by rfl, ?_⟩) (by assumption) ?_
                  rotate_left
                  · intro w hSw
                    (try dsimp only at hSw)
                    first | (go_simp; done) | (go_simp; with_reducible rfl)
                  try simp only [List.getElem_toArray, List.getElem_cons_succ, List.getElem_cons_zero, Act.put, List.setIfInBounds_toArray, List.set_cons_zero, List.set_cons_succ]
                  refine wpAnyH_ready (rs := [13]) (by kernel_rfl) (by simp) ?_
                  refine AllReadyH.cons (o := _) rfl (fun K hK => ?_) AllReadyH.nil
                  go_simp
                  try dsimp only
                  refine hK.out _ _ trivial (fun hHeld => ?_)
                  clear hK K
                  try simp only [List.getElem_toArray, List.getElem_cons_succ, List.getElem_cons_zero, Act.put, List.setIfInBounds_toArray, List.set_cons_zero, List.set_cons_succ]
                  refine wpAnyH_done (by kernel_rfl) ?_ _
                  (try simp only [Exit.then])
                  clear c23 f23
                  go_wp2
                  go_roundw
                  case rel => exact ⟨i + 1, by go_num, by omega, Lib.hid ⟨ts s 1 12, .slice A5 m5 c5, xs ++ [tn s 1 12], H5.out.set (p' := setNv p12 (.slice A5 m5 c5)) rfl, by simpa using HRow5.out, HStep.out, by rw [List.length_append, Hxl.out]; rfl, fun _ => H16.out HOd.out.symm⟩⟩
                  case measure => have := HI.out; simp [intOf]; omega
            · subst h
              go_wp2_with fail
              go_end0
              exact ⟨rfl, HEnd.out s (by rw [← HFin.out, rnm_odd _ HOd.out.symm]) HR.out⟩
          · have h1 : ¬ (i : Int) < n := by omega
            have hni : n - i = 0 := by omega
            have HF2 : Hid (s = rtE s0) := Lib.hid (by have := HFin.out; rw [hni] at this; exact this)
            clear hin hni
            rcases bdic od with h | h
            all_goals
              subst h
              go_wp2_with fail
              go_end0
              exact ⟨rfl, HEnd.out s HF2.out HR.out⟩
end Go.Proofs.YtiinponoeaihcaaGreat
