/- Walks: the law AuditTrue: what happened, told by the document. -/
import Derived.Test.YtbpejjmfdhkfhaaGreatDoorAudFew
import Derived.Test.YtbpejjmfdhkfhaaGreatDoorAudOwn
set_option linter.unusedVariables false
set_option linter.unusedSimpArgs false
namespace Go.Proofs.YtbpejjmfdhkfhaaGreatDoor
open Go.RowKit

theorem NmF.only {P Q : Nat → Prop} {B B' : Nat} {w w' : World} {A : Option Addr} {L : List (List UInt8)} (h : NmF P B w A L) (ho : Only P w w') (hQ : ∀ k, k < w.heap.size → Q k → P k) (hB : B' ≤ B) : NmF Q B' w' A L := by
  rcases h with h | ⟨b, o, h1, h2, h3, h4, h5⟩
  · exact Or.inl h
  · exact Or.inr ⟨b, o, h1, Nat.le_trans hB h2, Nat.lt_of_lt_of_le h3 ho.size, fun h => h4 (hQ b h3 h), fun j x hx => (World.cell?_of_block (a := ⟨b, o + j, none⟩) (ho.block b h3 h4)).trans (h5 j x hx)⟩
/-- the document's file system behind T's events, and T's events -/
structure OwnSt (w1 : World) (rr : Nat) (T : List Ev) (u : Value) (G : Nat → Prop) (wr : World) : Prop where
  ref : RefF rr (evRun newFS T) wr G
  lt : ∀ k, G k → k < wr.heap.size ∧ w1.heap.size ≤ k
  apart : ∀ q, u.ownBlock = some q → ¬ G q
  good : Pz.Good (3 * T.length + 1) (evRun newFS T)
  few : Pz.Few (evRun newFS T)
  own : Own T
  each : ∀ x ∈ T, EvFew x ∧ NmF (fun k => G k ∨ u.ownBlock = some k) 0 wr x.A x.q.names ∧ x.q.names.length ≤ 1000000
  below : Below w1.heap.size w1 wr

/-- the event that the document tells of -/
def evTold (x : Ev) (i : Nat) (q : Pz.Rep) (A : Option Addr) (c : Nat) : Ev := { x with num := i + 1, asked := 3 * i + 1, done := 3 * i + 2, told := 3 * i + 3, q := q, A := A, c := c }
/-- one event more -/
theorem OwnSt.next {w1 wr we w4 w5 w6 : World} {rr : Nat} {T : List Ev} {u v : Value} {G G' : Nat → Prop} (h : OwnSt w1 rr T u G wr) (hu : ∀ q, u.ownBlock = some q → w1.heap.size ≤ q ∧ q < wr.heap.size) (hbe : Below wr.heap.size wr we) {x : Ev} (hx : EvFew x) (hT : T.length ≤ 24) {A : Option Addr} {c : Nat}
    (hR : RefF rr (evDo (evRun newFS T) x).1 w4 G') (hG' : ∀ k, G' k → k < w4.heap.size ∧ (G k ∨ we.heap.size ≤ k)) (ho : Only G we w4) (hN : NmF G' we.heap.size w4 A (evDo (evRun newFS T) x).2.names) (eb : Nat) (heb : eb = wr.heap.size) (hel : eb < we.heap.size) (h5 : w4.grownBy w5 (some eb)) (hg6 : w5.grownBy w6 u.ownBlock) (hv : v.ownBlock = u.ownBlock ∨ v.ownBlock = some w5.heap.size) :
    OwnSt w1 rr (T ++ [evTold x T.length (evDo (evRun newFS T) x).2 A c]) v G' w6 := by
  have s1 := hbe.size
  have s2 := ho.size
  have s3 := h5.size
  have s4 := hg6.size
  have s0 := h.below.size
  have hkey : evDo (evRun newFS T) (evTold x T.length (evDo (evRun newFS T) x).2 A c) = evDo (evRun newFS T) x := evDo_key rfl
  have hrun : evRun newFS (T ++ [evTold x T.length (evDo (evRun newFS T) x).2 A c]) = (evDo (evRun newFS T) x).1 := by rw [evRun_snoc, hkey]
  have huG' : ∀ q, u.ownBlock = some q → ¬ G' q := fun q hq hg => (hG' q hg).2.elim (h.apart q hq) fun e => by
    have := (hu q hq).2
    omega
  have hebG' : ¬ G' eb := fun hg => (hG' eb hg).2.elim (fun e => by have := (h.lt eb e).1; omega) fun e => by omega
  -- from w4 on: only eb and the own row's block turn
  have ho46 : Only (fun k => k = eb ∨ u.ownBlock = some k) w4 w6 :=
    ⟨hg6.os.trans h5.os, hg6.tape.trans h5.tape, hg6.output.trans h5.output, Nat.le_trans s3 s4, fun k hk hn => (hg6.block k (by omega) (fun e => hn (Or.inr e.symm))).trans (h5.block k hk (fun e => hn (Or.inl (Option.some.inj e))))⟩
  have hvb : ∀ k, v.ownBlock = some k → u.ownBlock = some k ∨ k = w5.heap.size := fun k hk => hv.elim (fun e => Or.inl (e ▸ hk)) fun e => Or.inr (by rw [e] at hk; exact (Option.some.inj hk).symm)
  have hB : Below w1.heap.size w1 w6 := by
    refine ⟨ho46.os.trans (ho.os.trans (hbe.os.trans h.below.os)), ho46.tape.trans (ho.tape.trans (hbe.tape.trans h.below.tape)), ho46.output.trans (ho.output.trans (hbe.output.trans h.below.output)), by omega, fun k hk => ?_⟩
    refine (ho46.block k (by omega) ?_).trans ((ho.block k (by omega) ?_).trans ((hbe.block k (by omega)).trans (h.below.block k hk)))
    · rintro (e | e)
      · omega
      · have := (hu k e).1
        omega
    · exact fun e => by have := (h.lt k e).2; omega
  exact {
    ref := by
      rw [hrun]
      refine (RefF.held _ _).apart hR ho46 fun k hk hg => ?_
      rintro (e | e)
      · exact hebG' (e ▸ hg)
      · exact huG' k e hg
    lt := fun k hk => ⟨Nat.lt_of_lt_of_le (hG' k hk).1 (by omega), (hG' k hk).2.elim (fun e => (h.lt k e).2) fun e => by omega⟩
    apart := fun q hq hg => (hvb q hq).elim (fun e => huG' q e hg) fun e => by
      have := (hG' q hg).1
      omega
    good := by
      rw [hrun, List.length_append, List.length_singleton]
      exact (evDo_good h.good h.few x).1.mono (by omega)
    few := by
      rw [hrun]
      exact (evDo_good h.good h.few x).2
    own := by
      refine h.own.snoc ?_ ?_ ?_ ?_ ?_
      · rfl
      · rfl
      · rfl
      · rfl
      · rw [hkey]
        rfl
    each := fun y hy => by
      rcases List.mem_append.1 hy with hy | hy
      · obtain ⟨e1, e2, e3⟩ := h.each y hy
        refine ⟨e1, ?_, e3⟩
        rcases e2 with e2 | ⟨b, o, b1, b2, b3, b4, b5⟩
        · exact Or.inl e2
        · have hbk : w6.heap[b]? = wr.heap[b]? := (ho46.block b (by omega) (by
              rintro (e | e)
              · omega
              · exact b4 (Or.inr e))).trans ((ho.block b (by omega) (fun e => b4 (Or.inl e))).trans (hbe.block b b3))
          exact Or.inr ⟨b, o, b1, b2, by omega, by
            rintro (e | e)
            · exact (hG' b e).2.elim (fun e => b4 (Or.inl e)) fun e => by omega
            · exact (hvb b e).elim (fun e => b4 (Or.inr e)) fun e => by omega, fun j z hz => (World.cell?_of_block (a := ⟨b, o + j, none⟩) hbk).trans (b5 j z hz)⟩
      · rw [List.mem_singleton.1 hy]
        refine ⟨⟨hx.cl, hx.fd, hx.p, hx.p2⟩, ?_, ?_⟩
        · show NmF _ 0 w6 A (evDo (evRun newFS T) x).2.names
          rcases hN with e2 | ⟨b, o, b1, b2, b3, b4, b5⟩
          · exact Or.inl e2
          · have hbk : w6.heap[b]? = w4.heap[b]? := ho46.block b b3 (by
              rintro (e | e)
              · omega
              · have := (hu b e).2
                omega)
            exact Or.inr ⟨b, o, b1, by omega, by omega, by
              rintro (e | e)
              · exact b4 e
              · exact (hvb b e).elim (fun e => by have := (hu b e).2; omega) fun e => by omega, fun j z hz => (World.cell?_of_block (a := ⟨b, o + j, none⟩) hbk).trans (b5 j z hz)⟩
        · show (evDo (evRun newFS T) x).2.names.length ≤ 1000000
          have := Pz.do_names (evRun newFS T) x.cl x.kind x.p.data.toList x.p2.data.toList x.flags x.fd x.off x.n x.data.data.toList
          have := h.good.e
          unfold evDo
          omega
    below := hB }

end Go.Proofs.YtbpejjmfdhkfhaaGreatDoor

/- An event's answer turned, in its row of memory: what the audit then tells. -/
namespace Go.Proofs.YtbpejjmfdhkfhaaGreatDoor
open Go.RowKit

theorem there_row {w : World} {g t : Nat} {C : Array Value} (h : w.heap[g]? = some (.cells C t (0, 0))) {o n : Nat} (ho : o + n ≤ C.size) : w.there g o n := fun j hj => by
  refine ⟨?_, frozen_of_row _ _ _ _ t h⟩
  have : C[o + j]? = some C[o + j] := Array.getElem?_eq_getElem (by omega)
  rw [cell_of_row _ _ (o + j) C t _ h, this]
  rfl
theorem Tryz.sizeRep : (Tryz.prog.info? 36).map (fun i => i.size) = some 7 := by kernel_rfl
theorem setCells_grown (g : Nat) : ∀ (vs : List Value) (o : Nat) (w : World), w.grownBy (w.setCells g o vs) (some g)
  | [], _, w => ⟨rfl, rfl, rfl, Nat.le_refl _, fun _ _ _ => rfl⟩
  | v :: r, o, w => by
    have h := setCells_grown g r (o + 1) (w.setCell ⟨g, o, none⟩ v)
    rw [World.setCells]
    exact ⟨h.os, h.tape, h.output, by have := h.size; simpa using this, fun k hk hn => (h.block k (by simpa using hk) hn).trans (Go.heap_setCell_other w ⟨g, o, none⟩ k v (fun e => hn (by rw [e])))⟩
theorem put_rep (x : Ev) (q : Pz.Rep) (A : Option Addr) (c : Nat) : putCells (evC x) 13 (repC q A c).toList = evC { x with q := q, A := A, c := c } := by
  rw [← Array.toList_inj, putCells_toList _ _ _ (Nat.le_refl 20)]
  rfl
theorem own_keep {w w' : World} {B e s n : Nat} {v : Value} {xs : List Value} (h : w.ownsRow B e s v n xs) (hb : ∀ q, v.ownBlock = some q → w'.heap[q]? = w.heap[q]?) : w'.ownsRow B e s v n xs :=
  ⟨h.1, h.2.imp id fun ⟨g, cap, cur, hv, hB, hg, hr⟩ => ⟨g, cap, cur, hv, hB, (hb g (by rw [hv]; rfl)).trans hg, hr⟩⟩

theorem putCells_get (vs : List Value) (o : Nat) (C : Array Value) (h : o + vs.length ≤ C.size) (i : Nat) : (putCells C o vs)[i]? = if i < o then C[i]? else if i < o + vs.length then vs[i - o]? else C[i]? := by
  have hl : (C.toList.take o).length = o := by rw [List.length_take, Array.length_toList]; omega
  rw [← Array.getElem?_toList, putCells_toList vs o C h, List.append_assoc]
  by_cases h1 : i < o
  · rw [if_pos h1, List.getElem?_append_left (by omega), List.getElem?_take_of_lt h1, Array.getElem?_toList]
  · rw [if_neg h1, List.getElem?_append_right (by omega), hl]
    by_cases h2 : i < o + vs.length
    · rw [if_pos h2, List.getElem?_append_left (by omega)]
    · rw [if_neg h2, List.getElem?_append_right (by omega), List.getElem?_drop, show o + vs.length + (i - o - vs.length) = i by omega, Array.getElem?_toList]

theorem evAt_cells {w : World} {g t o : Nat} {C : Array Value} {x : Ev} (h : w.heap[g]? = some (.cells C t (0, 0))) (hc : ∀ i u, i < 20 → (evC x)[i]? = some u → C[o + i]? = some u) : EvAt w g o x := by
  have g : ∀ i u, i < 20 → (evC x)[i]? = some u → w.cell? ⟨g, o + i, none⟩ = some u := fun i u hi hu => (cell_of_row w g (o + i) C t _ h).trans (hc i u hi hu)
  exact ⟨g 0 _ (by omega) rfl, g 1 _ (by omega) rfl, g 2 _ (by omega) rfl, g 3 _ (by omega) rfl, g 4 _ (by omega) rfl, g 5 _ (by omega) rfl, g 6 _ (by omega) rfl, g 7 _ (by omega) rfl, g 8 _ (by omega) rfl, g 9 _ (by omega) rfl, g 10 _ (by omega) rfl, g 11 _ (by omega) rfl, g 12 _ (by omega) rfl, g 13 _ (by omega) rfl, g 14 _ (by omega) rfl, g 15 _ (by omega) rfl, g 16 _ (by omega) rfl, g 17 _ (by omega) rfl, g 18 _ (by omega) rfl, g 19 _ (by omega) rfl⟩

theorem repC_len (o : Pz.Rep) (A : Option Addr) (c : Nat) : (repC o A c).toList.length = 7 := rfl
/-- the row in which an event's answer is turned -/
theorem row_set {w : World} {B e c k : Nat} {A : Option Addr} {T : List Ev} {x : Ev} (h : w.ownsRow B e 20 (.slice A T.length c) T.length (flat evC T)) (hx : T[k]? = some x) (o : Pz.Rep) (A2 : Option Addr) (c2 : Nat) :
    ∃ gb cur, A = some ⟨gb, 0, none⟩ ∧ B ≤ gb ∧ w.heap[gb]? = some (.cells cur e (0, 0)) ∧ k * 20 + 20 ≤ cur.size ∧ EvAt w gb (k * 20) x ∧ ∀ w' : World, w'.heap[gb]? = some (.cells (putCells cur (k * 20 + 13) (repC o A2 c2).toList) e (0, 0)) → Evs w' A (T.set k { x with q := o, A := A2, c := c2 }) := by
  have hk : k < T.length := (List.getElem?_eq_some_iff.1 hx).1
  rcases h.2 with ⟨_, h0⟩ | ⟨gb, cap, cur, hv, hB, hg, hn, _, hsz, hcur⟩
  · omega
  · have hA : A = some ⟨gb, 0, none⟩ := by cases hv; rfl
    have hs : T.length * 20 ≤ cur.size := by rw [hsz]; exact Nat.mul_le_mul_right 20 hn
    have hc : ∀ j y, T[j]? = some y → ∀ i u, i < 20 → (evC y)[i]? = some u → cur[j * 20 + i]? = some u := fun j y hy i u hi hu => by
      have hj : j < T.length := (List.getElem?_eq_some_iff.1 hy).1
      have := flat_get i hy hi
      rw [hu, ← hcur, List.getElem?_take_of_lt (by omega), Array.getElem?_toList] at this
      exact this
    refine ⟨gb, cur, hA, hB, hg, by omega, evAt_cells hg fun i u hi hu => hc k x hx i u hi hu, fun w' h' => Or.inr ⟨gb, 0, hA, (Array.getElem?_eq_some_iff.1 h').1, fun j y hy => ?_⟩⟩
    rw [Nat.zero_add]
    refine evAt_cells h' fun i u hi hu => ?_
    rw [putCells_get _ _ _ (by rw [repC_len]; omega), repC_len]
    by_cases hj : j = k
    · subst hj
      rw [List.getElem?_set_self hk] at hy
      obtain rfl := Option.some.inj hy
      by_cases h1 : j * 20 + i < j * 20 + 13
      · rw [if_pos h1]
        refine hc j x hx i u hi ?_
        rw [← hu]
        match i, h1 with
        | 0, _ => rfl
        | 1, _ => rfl
        | 2, _ => rfl
        | 3, _ => rfl
        | 4, _ => rfl
        | 5, _ => rfl
        | 6, _ => rfl
        | 7, _ => rfl
        | 8, _ => rfl
        | 9, _ => rfl
        | 10, _ => rfl
        | 11, _ => rfl
        | 12, _ => rfl
        | n + 13, h1 => exact absurd h1 (by omega)
      · rw [if_neg h1, if_pos (by omega), show j * 20 + i - (j * 20 + 13) = i - 13 by omega, ← hu]
        match i, h1, hi with
        | 13, _, _ => rfl
        | 14, _, _ => rfl
        | 15, _, _ => rfl
        | 16, _, _ => rfl
        | 17, _, _ => rfl
        | 18, _, _ => rfl
        | 19, _, _ => rfl
        | n + 20, _, h2 => exact absurd h2 (by omega)
        | 0, h1, _ => exact absurd (by omega) h1
        | 1, h1, _ => exact absurd (by omega) h1
        | 2, h1, _ => exact absurd (by omega) h1
        | 3, h1, _ => exact absurd (by omega) h1
        | 4, h1, _ => exact absurd (by omega) h1
        | 5, h1, _ => exact absurd (by omega) h1
        | 6, h1, _ => exact absurd (by omega) h1
        | 7, h1, _ => exact absurd (by omega) h1
        | 8, h1, _ => exact absurd (by omega) h1
        | 9, h1, _ => exact absurd (by omega) h1
        | 10, h1, _ => exact absurd (by omega) h1
        | 11, h1, _ => exact absurd (by omega) h1
        | 12, h1, _ => exact absurd (by omega) h1
    · rw [List.getElem?_set_ne (fun e => hj e.symm)] at hy
      have h0 := hc j y hy i u hi hu
      split
      · exact h0
      · split
        · exfalso
          have : j < k ∨ k < j := by omega
          omega
        · exact h0

theorem nmz_of {w w' : World} {A : Option Addr} {L : List (List UInt8)} (h : L = [] ∨ ∃ b o, A = some ⟨b, o, none⟩ ∧ b < w.heap.size ∧ w'.heap[b]? = w.heap[b]? ∧ ∀ j x, L[j]? = some x → w.cell? ⟨b, o + j, none⟩ = some (.string ⟨x.toArray⟩)) (hs : w.heap.size ≤ w'.heap.size) : Nmz w' A L := by
  rcases h with h | ⟨b, o, h1, h2, h3, h4⟩
  · exact Or.inl h
  · exact Or.inr ⟨b, o, h1, Nat.lt_of_lt_of_le h2 hs, fun j x hx => (World.cell?_of_block (a := ⟨b, o + j, none⟩) h3).trans (h4 j x hx)⟩

/-- what the audit tells of the turned events -/
theorem run_turned [Inhabited XBox] {w w1 wr w6 w7 : World} {rr c' k gb : Nat} {T : List Ev} {G : Nat → Prop} {x : Ev} (hx : MxX w) (hs : OwnSt w1 rr T (.slice (some ⟨gb, 0, none⟩) T.length c') G wr) (ho : wr.ownsRow w1.heap.size 53 20 (.slice (some ⟨gb, 0, none⟩) T.length c') T.length (flat evC T)) (hT : T.length ≤ 25) (hxk : T[k]? = some x) (hb1 : Below w.heap.size w w1) (hb6 : Below wr.heap.size wr w6) (oo : Pz.Rep) (A2 : Option Addr) (c2 : Nat) (hN : Nmz w A2 oo.names) (hl : oo.names.length ≤ 9223372036854775807) (h18 : oo.errno ≠ 18) (hne : x.q ≠ oo) (h7 : w7 = w6.setCells gb (k * 20 + 13) (repC oo A2 c2).toList) :
    Below w.heap.size w w7 ∧ Calls Tryz.prog 16 #[.slice (some ⟨gb, 0, none⟩) T.length c', .slice none 0 0] w7 fun e w' => ∃ pr : Nat, e = .returned (.tuple #[.pointer (some ⟨pr, 0, none⟩), .int .i64 (k + 1)]) ∧ Below w7.heap.size w7 w' := by
  obtain ⟨gb', cur, hA, hB, hg, hks, _, hEv⟩ := row_set ho hxk oo A2 c2
  obtain rfl : gb = gb' := by cases hA; rfl
  have hgl : gb < wr.heap.size := lt_of_get hg
  have hg6 : w6.heap[gb]? = some (.cells cur 53 (0, 0)) := (hb6.block gb hgl).trans hg
  have hg7 : w7.heap[gb]? = some (.cells (putCells cur (k * 20 + 13) (repC oo A2 c2).toList) 53 (0, 0)) := by
    rw [h7]
    exact setCells_heap _ _ _ _ _ _ hg6
  have hgr : w6.grownBy w7 (some gb) := by
    rw [h7]
    exact setCells_grown _ _ _ _
  have s1 := hb1.size
  have s2 := hs.below.size
  have s3 := hb6.size
  have s4 := hgr.size
  have hblk : ∀ b, b < wr.heap.size → b ≠ gb → w7.heap[b]? = wr.heap[b]? := fun b hb hn => (hgr.block b (by omega) (fun e => hn (Option.some.inj e))).trans (hb6.block b hb)
  have hbw : Below w.heap.size w w7 := by
    rw [h7]
    exact setCells_below (by omega) _ _ _ _ (hb1.trans ((hs.below.mono hb1.size).trans (hb6.mono (by omega))))
  refine ⟨hbw, ?_⟩
  obtain ⟨hd, hbad⟩ := hs.own.turned hxk oo A2 c2 hne
  have hlen : (T.set k { x with q := oo, A := A2, c := c2 }).length = T.length := List.length_set
  have hmay : ∀ y ∈ T.set k { x with q := oo, A := A2, c := c2 }, EvMay w7 y := fun y hy => by
    obtain ⟨j, hj⟩ := List.getElem?_of_mem hy
    have hkl : k < T.length := (List.getElem?_eq_some_iff.1 hxk).1
    by_cases hjk : j = k
    · subst hjk
      rw [List.getElem?_set_self hkl] at hj
      obtain rfl := Option.some.inj hj
      obtain ⟨f, _, _⟩ := hs.each x (List.mem_of_getElem? hxk)
      obtain ⟨_, _, _, o4, _⟩ := hs.own j x hxk
      exact ⟨f.cl, f.fd, Nat.le_trans f.p (by omega), Nat.le_trans f.p2 (by omega), hN.keep hbw, hl, h18, Or.inl (by show 0 < x.told; omega)⟩
    · rw [List.getElem?_set_ne (fun e => hjk e.symm)] at hj
      obtain ⟨f, nm, nl⟩ := hs.each y (List.mem_of_getElem? hj)
      obtain ⟨_, _, _, o4, o5⟩ := hs.own j y hj
      refine ⟨f.cl, f.fd, Nat.le_trans f.p (by omega), Nat.le_trans f.p2 (by omega), nmz_of (w := wr) ?_ (by omega), by omega, by rw [o5]; exact Pz.do_18 _ _ _ _ _ _ _ _ _ _, Or.inl (by omega)⟩
      rcases nm with h | ⟨b, o, b1, b2, b3, b4, b5⟩
      · exact Or.inl h
      · exact Or.inr ⟨b, o, b1, b3, hblk b b3 (fun e => b4 (Or.inr (by rw [e]; rfl))), b5⟩
  have hRun := run_any (some ⟨gb, 0, none⟩) _ c' w7 (mxx_grow hx hbw) (by rw [hlen]; omega) (hEv w7 hg7) hmay (by rw [hd.all]; exact hd.rise)
  rw [hbad, hlen] at hRun
  exact hRun

end Go.Proofs.YtbpejjmfdhkfhaaGreatDoor
