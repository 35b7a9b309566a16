/- Walks: the document's file system in memory; Lookup, Of, count. -/
import Derived.Test.YtbpejjmfdhkfhaaGreatDoorPosBase
set_option linter.unusedVariables false
set_option linter.unusedSimpArgs false
namespace Go.Proofs.YtbpejjmfdhkfhaaGreatDoor
open Go.RowKit

def cN (L : List Pz.Nd) : List Value := Pz.three (fun x => .bool x.dir) (fun x => .string ⟨x.data.toArray⟩) (fun x => .int .i64 x.links) L
def cE (L : List Pz.En) : List Value := Pz.three (fun x => .int .i64 x.dir) (fun x => .string ⟨x.name.toArray⟩) (fun x => .int .i64 x.node) L
def cO (L : List Pz.Op) : List Value := Pz.three (fun x => .int .i64 x.client) (fun x => .int .i64 x.fd) (fun x => .int .i64 x.node) L

/-- the document's file system lies at block r: a struct of three slices that it owns, each in a row of its own -/
structure RefAt (w : World) (B r : Nat) (vN vE vO : Value) (S : Pz.Fil) : Prop where
  lo : B ≤ r
  lt : r < w.heap.size
  c0 : w.cell? ⟨r, 0, none⟩ = some vN
  c1 : w.cell? ⟨r, 1, none⟩ = some vE
  c2 : w.cell? ⟨r, 2, none⟩ = some vO
  fr : ∀ j, w.frozen? ⟨r, j, none⟩ = false
  oN : w.ownsRow B 79 3 vN S.N.length (cN S.N)
  oE : w.ownsRow B 116 3 vE S.E.length (cE S.E)
  oO : w.ownsRow B 96 3 vO S.O.length (cO S.O)
  aN : vN.ownBlock ≠ some r
  aE : vE.ownBlock ≠ some r
  aO : vO.ownBlock ≠ some r
  nE : vN.ownBlock = none ∨ vN.ownBlock ≠ vE.ownBlock
  nO : vN.ownBlock = none ∨ vN.ownBlock ≠ vO.ownBlock
  eO : vE.ownBlock = none ∨ vE.ownBlock ≠ vO.ownBlock
def RefIs (w : World) (B r : Nat) (S : Pz.Fil) : Prop := ∃ vN vE vO, RefAt w B r vN vE vO S

theorem grown_of {w w' : World} (h : Below w.heap.size w w') : w.grownBy w' none := ⟨h.os, h.tape, h.output, h.size, fun k hk _ => h.block k hk⟩
theorem RefAt.keep {w w' : World} {B r : Nat} {vN vE vO : Value} {S : Pz.Fil} (h : RefAt w B r vN vE vO S) (hb : Below w.heap.size w w') : RefAt w' B r vN vE vO S :=
  { h with
    lt := Nat.lt_of_lt_of_le h.lt hb.size
    c0 := (hb.cell (p := ⟨r, 0, none⟩) h.lt).trans h.c0
    c1 := (hb.cell (p := ⟨r, 1, none⟩) h.lt).trans h.c1
    c2 := (hb.cell (p := ⟨r, 2, none⟩) h.lt).trans h.c2
    fr := fun j => (hb.frozen (p := ⟨r, j, none⟩) h.lt).trans (h.fr j)
    oN := h.oN.kept (grown_of hb) (by cases hv : vN.ownBlock <;> simp)
    oE := h.oE.kept (grown_of hb) (by cases hv : vE.ownBlock <;> simp)
    oO := h.oO.kept (grown_of hb) (by cases hv : vO.ownBlock <;> simp) }
theorem RefIs.keep {w w' : World} {B r : Nat} {S : Pz.Fil} (h : RefIs w B r S) (hb : Below w.heap.size w w') : RefIs w' B r S := by
  obtain ⟨vN, vE, vO, h⟩ := h
  exact ⟨vN, vE, vO, h.keep hb⟩

/-- a row of three cells each, read -/
theorem row3 {w : World} {B e : Nat} {v : Value} {α : Type} {f g h : α → Value} {L : List α} (hr : w.ownsRow B e 3 v L.length (Pz.three f g h L)) :
    ∃ A c, v = .slice A L.length c ∧ L.length ≤ c ∧ ∀ k x, L[k]? = some x → ∃ b, A = some ⟨b, 0, none⟩ ∧ B ≤ b ∧ b < w.heap.size ∧ w.cell? ⟨b, k * 3, none⟩ = some (f x) ∧ w.cell? ⟨b, k * 3 + 1, none⟩ = some (g x) ∧ w.cell? ⟨b, k * 3 + 2, none⟩ = some (h x) ∧ ∀ j, w.frozen? ⟨b, j, none⟩ = false := by
  have hr' := hr
  rcases hr.2 with ⟨rfl, h0⟩ | ⟨b, cap, cur, rfl, hb, hg, hc, _, _, _⟩
  · refine ⟨none, 0, by rw [h0], by omega, fun k x hx => ?_⟩
    have := (List.getElem?_eq_some_iff.1 hx).1
    omega
  · refine ⟨_, cap, rfl, hc, fun k x hx => ?_⟩
    have hk := (List.getElem?_eq_some_iff.1 hx).1
    obtain ⟨h1, h2, h3⟩ := Pz.three_get f g h L k x hx
    exact ⟨b, rfl, hb, (Array.getElem?_eq_some_iff.1 hg).1, (hr'.cellAt _ (by omega)).trans h1, (hr'.cellAt _ (by omega)).trans h2, (hr'.cellAt _ (by omega)).trans h3, fun j => hr'.frozenAt j⟩

theorem ba_eq_iff {a : ByteArray} {x : List UInt8} : ((⟨x.toArray⟩ : ByteArray) = a) ↔ x = a.data.toList :=
  ⟨fun h => by rw [← h], fun h => ba_ext (by rw [← h])⟩

set_option maxHeartbeats 2000000 in
theorem look_any (B r : Nat) (S : Pz.Fil) (i : Nat) (s : ByteArray) (w : World) (hE : S.E.length ≤ 1000000) (hR : RefIs w B r S) :
    Calls Tryz.prog 48 #[.pointer (some ⟨r, 0, none⟩), .int .i64 i, .string s] w fun e w' => e = .returned (.int .i64 (Pz.look S.E i s.data.toList)) ∧ Below w.heap.size w w' := by
  obtain ⟨vN, vE, vO, hR⟩ := hR
  obtain ⟨A, c, rfl, hc, hrow⟩ := row3 hR.oE
  have hc1 := hR.c1
  have hlt := hR.lt
  have HR := Lib.hid hrow
  clear hrow hR hc
  obtain ⟨n, hn⟩ : ∃ n, n = S.E.length := ⟨_, rfl⟩
  rw [← hn] at hc1 hE
  have Hn := Lib.hid hn; clear hn
  obtain ⟨R, hRv⟩ : ∃ R, R = Pz.look S.E i s.data.toList := ⟨_, rfl⟩
  rw [← hRv]
  have HV := Lib.hid hRv; clear hRv
  go_enter Tryz.func48, Tryz.ntmps48
  go_wp2
  go_loopw [7] (fun v wr => ∃ k : Nat, k ≤ n ∧ v = .int .i64 k ∧ Hid (R = Pz.look (S.E.drop k) i s.data.toList) ∧ Below w.heap.size w wr) (fun v _ => n - (intOf v).toNat)
  case atStart => exact ⟨0, by omega, rfl, HV.out, Below.refl _ _⟩
  case round =>
    obtain ⟨k, hk, rfl, hok, hbw⟩ := hrel
    have hc1' : wr.cell? ⟨r, 1, none⟩ = some (.slice A n c) := (hbw.cell (p := ⟨r, 1, none⟩) hlt).trans hc1
    by_cases hkn : k < n
    · obtain ⟨e, he⟩ : ∃ e, S.E[k]? = some e := ⟨_, List.getElem?_eq_getElem (by have := Hn.out; omega)⟩
      obtain ⟨b, rfl, _, hb, h0, h1, h2, _⟩ := HR.out k e he
      have hst := Pz.look_at (i := i) (x := s.data.toList) he
      rw [← hok.out] at hst
      have Hst := Lib.hid hst
      have g0 := (hbw.cell (p := ⟨b, k * 3, none⟩) hb).trans h0
      have g1 := (hbw.cell (p := ⟨b, k * 3 + 1, none⟩) hb).trans h1
      have g2 := (hbw.cell (p := ⟨b, k * 3 + 2, none⟩) hb).trans h2
      clear h0 h1 h2 he hst hc1
      have hk1 : (0 : Int) ≤ k := by omega
      have hk2 : (k : Int) < n := by omega
      go_wp2
      · go_ret
        refine ⟨ret_int ?_, hbw⟩
        rw [Hst.out, if_pos ?_]
        refine ⟨by have h1 : (e.dir : Int) = i := by assumption
                   omega, ?_⟩
        have h1 : (e.name == s.toList) = true := by assumption
        rw [← Lib.toList_data]
        exact eq_of_beq h1
      all_goals
        have hne : ¬ (e.dir = i ∧ e.name = s.data.toList) := by
          first
          | (have h1 : (e.name == s.toList) = false := by assumption
             rintro ⟨_, h2⟩
             rw [← Lib.toList_data] at h2
             exact (beq_eq_false_iff_ne.1 h1) h2)
          | (have h1 : ¬ (e.dir : Int) = i := by assumption
             rintro ⟨h2, _⟩
             exact h1 (by rw [h2]))
        go_roundw
        case rel => exact ⟨k + 1, by omega, by go_num, Hst.out.trans (if_neg hne), hbw⟩
        case measure => simp [intOf]; omega
    · have hk2 : (n : Int) ≤ k := by omega
      go_wp2
      go_ret
      refine ⟨?_, hbw⟩
      apply ret_int
      rw [hok.out, List.drop_of_length_le (by have := Hn.out; omega)]
      rfl

set_option maxHeartbeats 2000000 in
theorem of_any (B r : Nat) (S : Pz.Fil) (cl fd : Int) (w : World) (hE : S.O.length ≤ 1000000) (hR : RefIs w B r S) :
    Calls Tryz.prog 34 #[.pointer (some ⟨r, 0, none⟩), .int .i64 cl, .int .i64 fd] w fun e w' => e = .returned (.int .i64 (Pz.ofd S.O cl fd)) ∧ Below w.heap.size w w' := by
  obtain ⟨vN, vE, vO, hR⟩ := hR
  obtain ⟨A, c, rfl, hc, hrow⟩ := row3 hR.oO
  have hc1 := hR.c2
  have hlt := hR.lt
  have HR := Lib.hid hrow
  clear hrow hR hc
  obtain ⟨n, hn⟩ : ∃ n, n = S.O.length := ⟨_, rfl⟩
  rw [← hn] at hc1 hE
  have Hn := Lib.hid hn; clear hn
  obtain ⟨R, hRv⟩ : ∃ R, R = Pz.ofd S.O cl fd := ⟨_, rfl⟩
  rw [← hRv]
  have HV := Lib.hid hRv; clear hRv
  go_enter Tryz.func34, Tryz.ntmps34
  go_wp2
  go_loopw [7] (fun v wr => ∃ k : Nat, k ≤ n ∧ v = .int .i64 k ∧ Hid (R = Pz.ofd (S.O.drop k) cl fd) ∧ Below w.heap.size w wr) (fun v _ => n - (intOf v).toNat)
  case atStart => exact ⟨0, by omega, rfl, HV.out, Below.refl _ _⟩
  case round =>
    obtain ⟨k, hk, rfl, hok, hbw⟩ := hrel
    have hc1' : wr.cell? ⟨r, 2, none⟩ = some (.slice A n c) := (hbw.cell (p := ⟨r, 2, none⟩) hlt).trans hc1
    by_cases hkn : k < n
    · obtain ⟨e, he⟩ : ∃ e, S.O[k]? = some e := ⟨_, List.getElem?_eq_getElem (by have := Hn.out; omega)⟩
      obtain ⟨b, rfl, _, hb, h0, h1, h2, _⟩ := HR.out k e he
      have hst := Pz.ofd_at (c := cl) (fd := fd) he
      rw [← hok.out] at hst
      have Hst := Lib.hid hst
      have g0 := (hbw.cell (p := ⟨b, k * 3, none⟩) hb).trans h0
      have g1 := (hbw.cell (p := ⟨b, k * 3 + 1, none⟩) hb).trans h1
      have g2 := (hbw.cell (p := ⟨b, k * 3 + 2, none⟩) hb).trans h2
      clear h0 h1 h2 he hst hc1
      have hk1 : (0 : Int) ≤ k := by omega
      have hk2 : (k : Int) < n := by omega
      go_wp2
      · go_ret
        refine ⟨ret_int ?_, hbw⟩
        rw [Hst.out, if_pos ⟨by assumption, eq_of_beq (by assumption)⟩]
      all_goals
        have hne : ¬ (e.client = cl ∧ e.fd = fd) := by
          first
          | (have h1 : ¬ e.client = cl := by assumption
             rintro ⟨h2, _⟩
             exact h1 h2)
          | (have h1 : (e.fd == fd) = false := by assumption
             rintro ⟨_, h2⟩
             exact (beq_eq_false_iff_ne.1 h1) h2)
        go_roundw
        case rel => exact ⟨k + 1, by omega, by go_num, Hst.out.trans (if_neg hne), hbw⟩
        case measure => simp [intOf]; omega
    · have hk2 : (n : Int) ≤ k := by omega
      go_wp2
      go_ret
      refine ⟨?_, hbw⟩
      apply ret_int
      rw [hok.out, List.drop_of_length_le (by have := Hn.out; omega)]
      rfl

set_option maxHeartbeats 2000000 in
theorem count_any (B r : Nat) (S : Pz.Fil) (i : Nat) (w : World) (hE : S.E.length ≤ 1000000) (hR : RefIs w B r S) :
    Calls Tryz.prog 65 #[.pointer (some ⟨r, 0, none⟩), .int .i64 i] w fun e w' => e = .returned (.int .i64 (Pz.count S.E i)) ∧ Below w.heap.size w w' := by
  obtain ⟨vN, vE, vO, hR⟩ := hR
  obtain ⟨A, c, rfl, hc, hrow⟩ := row3 hR.oE
  have hc1 := hR.c1
  have hlt := hR.lt
  have HR := Lib.hid hrow
  clear hrow hR hc
  obtain ⟨n, hn⟩ : ∃ n, n = S.E.length := ⟨_, rfl⟩
  rw [← hn] at hc1 hE
  have Hn := Lib.hid hn; clear hn
  go_enter Tryz.func65, Tryz.ntmps65
  go_wp2
  go_loopw [5, 6] (fun q v wr => ∃ k m : Nat, k ≤ n ∧ m ≤ k ∧ v = .int .i64 k ∧ q = .int .i64 m ∧ Hid (m = Pz.count (S.E.take k) i) ∧ Below w.heap.size w wr) (fun _ v _ => n - (intOf v).toNat)
  case atStart => exact ⟨0, 0, by omega, by omega, rfl, rfl, by show 0 = Pz.count (S.E.take 0) i; rfl, Below.refl _ _⟩
  case round =>
    obtain ⟨k, m, hk, hm, rfl, rfl, hok, hbw⟩ := hrel
    have hc1' : wr.cell? ⟨r, 1, none⟩ = some (.slice A n c) := (hbw.cell (p := ⟨r, 1, none⟩) hlt).trans hc1
    by_cases hkn : k < n
    · obtain ⟨e, he⟩ : ∃ e, S.E[k]? = some e := ⟨_, List.getElem?_eq_getElem (by have := Hn.out; omega)⟩
      obtain ⟨b, rfl, _, hb, h0, h1, h2, _⟩ := HR.out k e he
      have hst := Pz.count_step (i := i) he
      rw [← hok.out] at hst
      have Hst := Lib.hid hst
      have g0 := (hbw.cell (p := ⟨b, k * 3, none⟩) hb).trans h0
      clear h0 h1 h2 he hst hc1
      have hk1 : (0 : Int) ≤ k := by omega
      have hk2 : (k : Int) < n := by omega
      go_wp2
      · have h1 : (e.dir : Int) = i := eq_of_beq (by assumption)
        go_roundw
        case rel => exact ⟨k + 1, m + 1, by omega, by omega, by go_num, by go_num, by show _ = _; rw [Hst.out, if_pos (by omega)], hbw⟩
        case measure => simp [intOf]; omega
      · have h1 : ¬ (e.dir : Int) = i := beq_eq_false_iff_ne.1 (by assumption)
        go_roundw
        case rel => exact ⟨k + 1, m, by omega, by omega, by go_num, by go_num, by show _ = _; rw [Hst.out, if_neg (by omega)]; rfl, hbw⟩
        case measure => simp [intOf]; omega
    · have hk2 : (n : Int) ≤ k := by omega
      go_wp2
      go_ret
      refine ⟨?_, hbw⟩
      apply ret_int
      have := hok.out
      rw [List.take_of_length_le (by have := Hn.out; omega)] at this
      rw [this]

end Go.Proofs.YtbpejjmfdhkfhaaGreatDoor

/- Walks: the document's Walk, Find, Place. -/
namespace Go.Proofs.YtbpejjmfdhkfhaaGreatDoor
open Go.RowKit

theorem ret_of {a b : Value} (h : a = b) : Ending.returned a = .returned b := by rw [h]
def toT : Except Int Nat → Value
  | .ok n => .tuple #[.int .i64 n, .int .i64 0]
  | .error e => .tuple #[.int .i64 0, .int .i64 e]

theorem walk_cons {S : Pz.Fil} {n : Nat} {L : List (List UInt8)} {k : Nat} {x : List UInt8} (hx : L[k]? = some x) :
    Pz.walk S n (L.drop k) = if Pz.isDir S.N n then (if Pz.look S.E n x < 0 then .error 10 else Pz.walk S (Pz.look S.E n x).toNat (L.drop (k + 1))) else .error 12 := by
  obtain ⟨h, h2⟩ := List.getElem?_eq_some_iff.1 hx
  rw [List.drop_eq_getElem_cons h, h2, Pz.walk]

set_option maxHeartbeats 2000000 in
theorem walk_any (B r : Nat) (S : Pz.Fil) (A : Option Addr) (L : List (List UInt8)) (c B' : Nat) (w : World) (hE : S.E.length ≤ 1000000) (hN : S.N.length ≤ 1000000) (hO : Pz.Ok S) (hL : L.length ≤ 1000000) (hR : RefIs w B r S) (hS : Strs w B' A L) :
    Calls Tryz.prog 64 #[.pointer (some ⟨r, 0, none⟩), .slice A L.length c] w fun e w' => e = .returned (toT (Pz.walk S 0 L)) ∧ Below w.heap.size w w' := by
  have hk := fun W W' (h : Below W.heap.size W W') (h2 : RefIs W B r S) => h2.keep h
  obtain ⟨vN, vE, vO, hA⟩ := id hR
  obtain ⟨A2, c2, rfl, hc2, hrow⟩ := row3 hA.oN
  have hc0 := hA.c0
  have hlt := hA.lt
  have HRow := Lib.hid hrow
  have HR := Lib.hid hR
  clear hrow hA hR hc2
  have HS := Lib.hid hS; clear hS
  have HK := Lib.hid hO
  have HE := Lib.hid hE
  have hroot := hO.root
  have hlk := fun n x => Pz.look_lt (n := S.N.length) (i := n) (x := x) hO.ent
  have HLK := Lib.hid hlk
  obtain ⟨q, hq⟩ : ∃ q, q = S.N.length := ⟨_, rfl⟩
  rw [← hq] at hc0 hN hroot
  have Hq := Lib.hid hq
  clear hO hE hlk hq
  obtain ⟨n, hn⟩ : ∃ n, n = L.length := ⟨_, rfl⟩
  rw [← hn] at hL ⊢
  have Hn := Lib.hid hn; clear hn
  obtain ⟨R, hRv⟩ : ∃ R, R = Pz.walk S 0 L := ⟨_, rfl⟩
  rw [← hRv]
  have HV := Lib.hid hRv; clear hRv
  go_enter Tryz.func64, Tryz.ntmps64
  go_wp2
  go_loopw [6, 7] (fun u v wr => ∃ k m : Nat, k ≤ n ∧ m < q ∧ v = .int .i64 k ∧ u = .int .i64 m ∧ Hid (R = Pz.walk S m (L.drop k)) ∧ Below w.heap.size w wr) (fun _ v _ => n - (intOf v).toNat)
  case atStart => exact ⟨0, 0, by omega, hroot, rfl, rfl, HV.out, Below.refl _ _⟩
  case round =>
    obtain ⟨k, m, hkn, hm, rfl, rfl, hok, hbw⟩ := hrel
    have hc0' : wr.cell? ⟨r, 0, none⟩ = some (.slice A2 q c2) := (hbw.cell (p := ⟨r, 0, none⟩) hlt).trans hc0
    by_cases hlt2 : k < n
    · obtain ⟨x, hx⟩ : ∃ x, L[k]? = some x := ⟨_, List.getElem?_eq_getElem (by have := Hn.out; omega)⟩
      obtain ⟨nd, hnd⟩ : ∃ nd, S.N[m]? = some nd := ⟨_, List.getElem?_eq_getElem (by have := Hq.out; omega)⟩
      obtain ⟨b, rfl, _, hb, h0, h1, h2, _⟩ := HRow.out m nd hnd
      have g0 := (hbw.cell (p := ⟨b, m * 3, none⟩) hb).trans h0
      clear h0 h1 h2
      have hst := walk_cons (S := S) (n := m) hx
      rw [← hok.out, show Pz.isDir S.N m = nd.dir by unfold Pz.isDir; rw [hnd]] at hst
      have hcx : ∃ b o, A = some ⟨b, o, none⟩ ∧ wr.cell? ⟨b, o + k, none⟩ = some (.string ⟨x.toArray⟩) := by
        rcases HS.out with h | ⟨b, o, h1, _, h3, h4, _⟩
        · rw [h] at hx; cases hx
        · exact ⟨b, o, h1, (hbw.cell (p := ⟨b, o + k, none⟩) h3).trans (h4 k x hx)⟩
      obtain ⟨b2, o2, rfl, hcx⟩ := hcx
      have hl := look_any B r S m ⟨x.toArray⟩ wr HE.out (HR.out.keep hbw)
      rw [show (⟨x.toArray⟩ : ByteArray).data.toList = x from rfl] at hl
      have hlq := HLK.out m x
      have hlg := Pz.look_ge (E := S.E) (i := m) (x := x)
      rw [← Hq.out] at hlq
      obtain ⟨z, hz⟩ : ∃ z, z = Pz.look S.E m x := ⟨_, rfl⟩
      rw [← hz] at hl hst hlq hlg
      clear hz
      have HL := Lib.hid hl
      clear hl hx hnd
      have hk1 : (0 : Int) ≤ k := by omega
      have hk2 : (k : Int) < n := by omega
      have hm1 : (0 : Int) ≤ m := by omega
      have hm2 : (m : Int) < q := by omega
      cases hd : nd.dir with
      | false =>
        rw [hd] at g0 hst
        have Hst := Lib.hid hst
        clear hst
        go_wp2
        go_ret2
        exact ⟨ret_of (by rw [Hst.out]; rfl), hbw⟩
      | true =>
        rw [hd] at g0 hst
        by_cases hz0 : z < 0
        · rw [if_pos rfl, if_pos hz0] at hst
          have Hst := Lib.hid hst
          clear hst
          go_wp2_with (go_at_call 48; refine HL.out.mono ?_; rintro e w2 ⟨rfl, hb2⟩)
          go_ret2
          exact ⟨ret_of (by rw [Hst.out]; rfl), hbw.trans (hb2.mono hbw.size)⟩
        · rw [if_pos rfl, if_neg hz0] at hst
          have Hst := Lib.hid hst
          clear hst
          have hz1 : (0 : Int) ≤ z := by omega
          go_wp2_with (go_at_call 48; refine HL.out.mono ?_; rintro e w2 ⟨rfl, hb2⟩)
          go_roundw
          case rel => exact ⟨k + 1, z.toNat, by omega, by omega, by go_num, by rw [Int.toNat_of_nonneg hz1], Hst.out, hbw.trans (hb2.mono hbw.size)⟩
          case measure => simp [intOf]; omega
    · have hk2 : (n : Int) ≤ k := by omega
      go_wp2
      go_ret2
      refine ⟨ret_of ?_, hbw⟩
      have := hok.out
      rw [List.drop_of_length_le (by have := Hn.out; omega), Pz.walk] at this
      rw [this]; rfl


def toP : Except Int (Nat × List UInt8) → Value
  | .ok (n, x) => .tuple #[.int .i64 n, .string ⟨x.toArray⟩, .int .i64 0]
  | .error e => .tuple #[.int .i64 0, .string ⟨#[]⟩, .int .i64 e]

set_option maxHeartbeats 2000000 in
theorem find_any (B r : Nat) (S : Pz.Fil) (s : ByteArray) (w : World) (hs : s.size ≤ 100000) (hE : S.E.length ≤ 1000000) (hN : S.N.length ≤ 1000000) (hO : Pz.Ok S) (hR : RefIs w B r S) :
    Calls Tryz.prog 36 #[.pointer (some ⟨r, 0, none⟩), .string s] w fun e w' => e = .returned (toT (Pz.find S s.data.toList)) ∧ Below w.heap.size w w' := by
  unfold Pz.find
  have HR := Lib.hid hR; clear hR
  cases hG : Np.pathL s.data.toList with
  | none =>
    have h1 := fun W => rpathN s W hs hG
    have H1 := Lib.hid h1; clear h1 hG
    show Calls _ _ _ _ fun e w' => e = .returned (.tuple #[.int .i64 0, .int .i64 15]) ∧ _
    clear HR hO
    go_enter Tryz.func36, Tryz.ntmps36
    go_wp2_with fail
    refine (H1.out _).mono ?_
    rintro e w1 ⟨rfl, hb1⟩
    go_wp2
    go_ret2
    exact ⟨rfl, hb1⟩
  | some L =>
    have h1 := fun W => rpathY s L W hs hG
    have hl6 := (pathL_names hG).1
    have h2 := fun A c B' W hR hS => walk_any B r S A L c B' W hE hN hO (by omega) hR hS
    have H1 := Lib.hid h1; clear h1 hG
    have H2 := Lib.hid h2; clear h2 hO
    show Calls _ _ _ _ fun e w' => e = .returned (toT (Pz.walk S 0 L)) ∧ _
    obtain ⟨R, hRv⟩ : ∃ R, R = Pz.walk S 0 L := ⟨_, rfl⟩
    rw [← hRv] at H2 ⊢
    clear hRv
    cases R with
    | ok m =>
      simp only [toT] at H2 ⊢
      go_enter Tryz.func36, Tryz.ntmps36
      go_wp2_with fail
      refine (H1.out _).mono ?_
      rintro e w1 ⟨A, c, rfl, hc, hS, hb1⟩
      have HS := Lib.hid hS; clear hS
      go_wp2_with fail
      refine (H2.out _ _ _ _ (HR.out.keep hb1) HS.out).mono ?_
      rintro e w2 ⟨rfl, hb2⟩
      go_wp2
      go_ret2
      exact ⟨rfl, hb1.trans (hb2.mono hb1.size)⟩
    | error v =>
      simp only [toT] at H2 ⊢
      go_enter Tryz.func36, Tryz.ntmps36
      go_wp2_with fail
      refine (H1.out _).mono ?_
      rintro e w1 ⟨A, c, rfl, hc, hS, hb1⟩
      have HS := Lib.hid hS; clear hS
      go_wp2_with fail
      refine (H2.out _ _ _ _ (HR.out.keep hb1) HS.out).mono ?_
      rintro e w2 ⟨rfl, hb2⟩
      go_wp2
      go_ret2
      exact ⟨rfl, hb1.trans (hb2.mono hb1.size)⟩

theorem place_some {S : Pz.Fil} {p : List UInt8} {L : List (List UInt8)} {x : List UInt8} (h : Np.pathL p = some (L ++ [x])) :
    Pz.place S p = Pz.placeOn S x (Pz.walk S 0 L) := by
  unfold Pz.place
  rw [h]
  simp only [List.getLast?_concat, List.dropLast_concat]
theorem place_none {S : Pz.Fil} {p : List UInt8} (h : Np.pathL p = none ∨ Np.pathL p = some []) : Pz.place S p = .error 15 := by
  unfold Pz.place
  rcases h with h | h <;> rw [h] <;> rfl

set_option maxHeartbeats 4000000 in
theorem place_any (B r : Nat) (S : Pz.Fil) (s : ByteArray) (w : World) (hs : s.size ≤ 100000) (hE : S.E.length ≤ 1000000) (hN : S.N.length ≤ 1000000) (hO : Pz.Ok S) (hR : RefIs w B r S) :
    Calls Tryz.prog 37 #[.pointer (some ⟨r, 0, none⟩), .string s] w fun e w' => e = .returned (toP (Pz.place S s.data.toList)) ∧ Below w.heap.size w w' := by
  have HR := Lib.hid hR
  rcases Classical.em (Np.pathL s.data.toList = none) with hG | hG
  · rw [place_none (Or.inl hG)]
    have h1 := fun W => rpathN s W hs hG
    have H1 := Lib.hid h1; clear h1 hG hO HR hR
    simp only [toP]
    go_enter Tryz.func37, Tryz.ntmps37
    go_wp2_with fail
    refine (H1.out _).mono ?_
    rintro e w1 ⟨rfl, hb1⟩
    go_wp2
    go_ret3
    exact ⟨rfl, hb1⟩
  rcases Classical.em (Np.pathL s.data.toList = some []) with hG2 | hG2
  · rw [place_none (Or.inr hG2)]
    have h1 := fun W => rpathY s [] W hs hG2
    have H1 := Lib.hid h1; clear h1 hG2 hG hO HR hR
    simp only [toP]
    go_enter Tryz.func37, Tryz.ntmps37
    go_wp2_with fail
    refine (H1.out _).mono ?_
    rintro e w1 ⟨A, c, rfl, hc, hS, hb1⟩
    clear hS
    go_wp2
    go_ret3
    exact ⟨rfl, hb1⟩
  obtain ⟨L, x, hL⟩ : ∃ L x, Np.pathL s.data.toList = some (L ++ [x]) := by
    cases h : Np.pathL s.data.toList with
    | none => exact absurd h hG
    | some M =>
      have hne : M ≠ [] := fun e => hG2 (by rw [h, e])
      exact ⟨M.dropLast, M.getLast hne, by rw [List.dropLast_concat_getLast hne]⟩
  rw [place_some hL]
  have hl6 := (pathL_names hL).1
  rw [List.length_append, List.length_singleton] at hl6
  have h1 := fun W => rpathY s (L ++ [x]) W hs hL
  have h2 := fun A c B' W hR hS => walk_any B r S A L c B' W hE hN hO (by omega) hR hS
  have hwl := fun m h => Pz.walk_lt hO (L := L) (n := 0) (m := m) hO.root h
  have hwe := fun e h => Pz.walk_err (S := S) (L := L) (n := 0) (e := e) h
  obtain ⟨n, hn⟩ : ∃ n, n = L.length := ⟨_, rfl⟩
  have hn6 : n ≤ 6 := by omega
  have hn1 : (L ++ [x]).length = n + 1 := by simp [hn]
  have hP : ∀ W, Calls Tryz.prog 63 #[.string s] W fun e w' => ∃ b o c, e = .returned (.tuple #[.slice (some ⟨b, o, none⟩) (n + 1) c, .int .i64 0]) ∧ n + 1 ≤ c ∧ w'.cell? ⟨b, o + n, none⟩ = some (.string ⟨x.toArray⟩) ∧ Strs w' 0 (some ⟨b, o, none⟩) L ∧ b < w'.heap.size ∧ Below W.heap.size W w' := fun W => by
    refine (h1 W).mono fun e w' ⟨A, c, he, hc, hS, hB⟩ => ?_
    rcases hS with h0 | ⟨b, o, rfl, h1, h2, h3, h4⟩
    · simp at h0
    · exact ⟨b, o, c, by rw [he, hn1], by rw [← hn1]; exact hc, h3 n x (by rw [hn]; simp), Or.inr ⟨b, o, rfl, Nat.zero_le _, h2, fun j y hy => h3 j y (by rw [List.getElem?_append_left (List.getElem?_eq_some_iff.1 hy).1]; exact hy), h4⟩, h2, hB⟩
  rw [← hn] at h2
  have H1 := Lib.hid hP
  have H2 := Lib.hid h2
  have HWL := Lib.hid hwl
  have HWE := Lib.hid hwe
  clear hP h1 h2 hwl hwe hL hG hG2 hn hn1
  clear hl6
  obtain ⟨R, hRv⟩ : ∃ R, R = Pz.walk S 0 L := ⟨_, rfl⟩
  rw [← hRv] at H2 HWL HWE ⊢
  clear hRv
  have hi0 : (0 : Int) ≤ n := by omega
  have hi1 : ((n : Int) + 1 == 0) = false := by rw [beq_eq_false_iff_ne]; omega
  have hi2 : (n : Int) < (n : Int) + 1 := by omega
  cases R with
  | error v =>
    simp only [toT] at H2
    simp only [Pz.placeOn, toP]
    have hv := HWE.out v rfl
    clear hR hO
    rcases hv with rfl | rfl
    all_goals
      go_enter Tryz.func37, Tryz.ntmps37
      go_wp2_with fail
      refine (H1.out _).mono ?_
      rintro e w1 ⟨b1, o1, c1, rfl, hc1, hcell, hS, hbl, hb1⟩
      have HS := Lib.hid hS; clear hS
      have hi3 : (n : Int) ≤ c1 := by omega
      go_wp2_with fail
      refine (H2.out _ _ _ _ (HR.out.keep hb1) HS.out).mono ?_
      rintro e w2 ⟨rfl, hb2⟩
      have hcell2 := (hb2.cell (p := ⟨b1, o1 + n, none⟩) hbl).trans hcell
      clear hcell
      go_wp2
      go_ret3
      exact ⟨rfl, hb1.trans (hb2.mono hb1.size)⟩
  | ok m =>
    have hm := HWL.out m rfl
    simp only [toT] at H2
    obtain ⟨vN, vE, vO, hA⟩ := id hR
    obtain ⟨A2, c2, rfl, hc2, hrow⟩ := row3 hA.oN
    obtain ⟨nd, hnd⟩ : ∃ nd, S.N[m]? = some nd := ⟨_, List.getElem?_eq_getElem hm⟩
    obtain ⟨b, rfl, _, hb, h0, h1, h2, _⟩ := hrow m nd hnd
    have hc0 := hA.c0
    have hlt := hA.lt
    simp only [Pz.placeOn]
    rw [show Pz.isDir S.N m = nd.dir by unfold Pz.isDir; rw [hnd]]
    obtain ⟨q, hq⟩ : ∃ q, q = S.N.length := ⟨_, rfl⟩
    rw [← hq] at hc0 hm hN
    clear h1 h2 hrow hA hR hO hnd hq
    have hm1 : (0 : Int) ≤ m := by omega
    have hm2 : (m : Int) < q := by omega
    cases hd : nd.dir with
    | true =>
      rw [hd] at h0
      simp only [if_true, toP]
      go_enter Tryz.func37, Tryz.ntmps37
      go_wp2_with fail
      refine (H1.out _).mono ?_
      rintro e w1 ⟨b1, o1, c1, rfl, hc1, hcell, hS, hbl, hb1⟩
      have HS := Lib.hid hS; clear hS
      have hi3 : (n : Int) ≤ c1 := by omega
      go_wp2_with fail
      refine (H2.out _ _ _ _ (HR.out.keep hb1) HS.out).mono ?_
      rintro e w2 ⟨rfl, hb2⟩
      have hcell2 := (hb2.cell (p := ⟨b1, o1 + n, none⟩) hbl).trans hcell
      clear hcell
      have hc0' := ((hb1.trans (hb2.mono hb1.size)).cell (p := ⟨r, 0, none⟩) hlt).trans hc0
      have g0 := ((hb1.trans (hb2.mono hb1.size)).cell (p := ⟨b, m * 3, none⟩) hb).trans h0
      clear h0 hc0
      go_wp2
      go_quiet (fail)
      go_wp2
      go_ret3
      exact ⟨rfl, below_drewN (hb1.trans (hb2.mono hb1.size)) _⟩
    | false =>
      rw [hd] at h0
      simp only [Bool.false_eq_true, if_false, toP]
      go_enter Tryz.func37, Tryz.ntmps37
      go_wp2_with fail
      refine (H1.out _).mono ?_
      rintro e w1 ⟨b1, o1, c1, rfl, hc1, hcell, hS, hbl, hb1⟩
      have HS := Lib.hid hS; clear hS
      have hi3 : (n : Int) ≤ c1 := by omega
      go_wp2_with fail
      refine (H2.out _ _ _ _ (HR.out.keep hb1) HS.out).mono ?_
      rintro e w2 ⟨rfl, hb2⟩
      have hcell2 := (hb2.cell (p := ⟨b1, o1 + n, none⟩) hbl).trans hcell
      clear hcell
      have hc0' := ((hb1.trans (hb2.mono hb1.size)).cell (p := ⟨r, 0, none⟩) hlt).trans hc0
      have g0 := ((hb1.trans (hb2.mono hb1.size)).cell (p := ⟨b, m * 3, none⟩) hb).trans h0
      clear h0 hc0
      go_wp2
      go_ret3
      exact ⟨rfl, hb1.trans (hb2.mono hb1.size)⟩

end Go.Proofs.YtbpejjmfdhkfhaaGreatDoor
