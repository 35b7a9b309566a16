/- Arguments of the audit's laws opened: a row of events; an answer. -/
import Derived.Test.YtbpejjmfdhkfhaaGreatDoorPosAsks
import Derived.Test.YtbpejjmfdhkfhaaGreatDoorAudFew
set_option linter.unusedVariables false
set_option linter.unusedSimpArgs false
namespace Go.Proofs.YtbpejjmfdhkfhaaGreatDoor
open Go.ChangeShapes Go.WideShapes Go.ChangeAt Go.RowKit

theorem cells_info : Tryz.prog.cellsOf 34 = 3 := by kernel_rfl
theorem cells_errno : Tryz.prog.cellsOf 31 = 1 := by kernel_rfl
theorem cells_names : Tryz.prog.cellsOf 32 = 1 := by kernel_rfl
theorem cells_reply : Tryz.prog.cellsOf 36 = 7 := by kernel_rfl
theorem cells_event : Tryz.prog.cellsOf 53 = 20 := by kernel_rfl

section
variable {H : Type} {enc : TypeId × Value → H} {W : World} {base : Nat} {spare : Nat → Bool} {held : Bool} {fuel : Nat} {x : DataW H × List MemPlace}
theorem one_errno {v : Value} (h : DataW.trod enc Tryz.prog W base spare held fuel 31 [v] = some x) : ∃ n, v = .int .i64 n ∧ (Lit.int .i64 n).wf = true := by
  obtain ⟨n, hc, _, hw⟩ := DataW.trod_int Tryz.underlying31 h
  cases hc
  exact ⟨n, rfl, hw⟩
theorem one_names {v : Value} (h : DataW.trod enc Tryz.prog W base spare held fuel 32 [v] = some x) : ∃ A n c, v = .slice A n c ∧ n ≤ c ∧ n ≤ 9223372036854775807 ∧ ((∀ q ∈ x.2, q.block < W.heap.size) → ∃ L : List (List UInt8), L.length = n ∧ Nmz W A L) := by
  rcases Go.ChangeShapes.open_strings Tryz.underlying32 Tryz.underlying9 cells_string h with ⟨hcs, hx⟩ | ⟨a, len', cap', ss, hcs, _, hl, hm, hz, hx, hcell, hsz⟩
  · cases hcs
    exact ⟨none, 0, 0, rfl, by omega, by omega, fun _ => ⟨[], rfl, Or.inl rfl⟩⟩
  · cases hcs
    unfold maxLen at hm
    have hz' : len' ≤ ss.length := by
      rw [hz]
      split <;> omega
    refine ⟨_, _, _, rfl, hl, by omega, fun hlt => ⟨(ss.take len').map (·.data.toList), by simp; omega, ?_⟩⟩
    by_cases h0 : len' = 0
    · left; rw [h0]; rfl
    · right
      obtain ⟨b, o, spot⟩ := a
      have hspot : spot = none := by simpa [Addr.add] using World.cell?_spot (hcell 0 (by omega))
      subst hspot
      subst hx
      refine ⟨b, o, rfl, hlt (.cell b o) (MemPlace.mem_row.2 ⟨0, by omega, by simp⟩), fun j x hj => ?_⟩
      rw [List.getElem?_map] at hj
      cases hs : (ss.take len')[j]? with
      | none => rw [hs] at hj; cases hj
      | some y =>
        rw [hs] at hj
        cases hj
        rw [List.getElem?_take] at hs
        split at hs
        · have h1 := (List.getElem?_eq_some_iff.1 hs).1
          have h2 := hcell j h1
          rw [Addr.add_lit, List.getD_eq_getElem?_getD, hs] at h2
          rw [h2]
          show _ = some (Value.string ⟨y.data.toList.toArray⟩)
          rw [str_eta]
          rfl
        · cases hs
set_option maxRecDepth 100000 in
theorem open_info {cs : List Value} (h : DataW.trod enc Tryz.prog W base spare held fuel 34 cs = some x) : ∃ a b c : Int, cs = [.int .i64 a, .int .i64 b, .int .i64 c] := by
  obtain ⟨xs, m, _, hxx, hl, hxl, hg⟩ := DataW.trod_struct Tryz.underlying34 h
  rw [cells_info] at hl
  match cs, hl, xs, hxl, hxx with
  | [c0, c1, c2], _, [y0, y1, y2], _, hxx =>
    have g0 : DataW.trod enc Tryz.prog W base spare held m 3 ((List.drop 0 [c0, c1, c2]).take (Tryz.prog.cellsOf 3)) = some y0 := hg 0 _ rfl
    rw [cells_int] at g0
    have g1 : DataW.trod enc Tryz.prog W base spare held m 3 ((List.drop 1 [c0, c1, c2]).take (Tryz.prog.cellsOf 3)) = some y1 := hg 1 _ rfl
    rw [cells_int] at g1
    have g2 : DataW.trod enc Tryz.prog W base spare held m 3 ((List.drop 2 [c0, c1, c2]).take (Tryz.prog.cellsOf 3)) = some y2 := hg 2 _ rfl
    rw [cells_int] at g2
    obtain ⟨a, rfl, _⟩ := one_int g0
    obtain ⟨b, rfl, _⟩ := one_int g1
    obtain ⟨c, rfl, _⟩ := one_int g2
    exact ⟨a, b, c, rfl⟩
set_option maxRecDepth 100000 in
theorem open_reply {cs : List Value} (h : DataW.trod enc Tryz.prog W base spare held fuel 36 cs = some x) : ∃ (q : Pz.Rep) (A : Option Addr) (c : Nat), cs = (repC q A c).toList ∧ q.names.length ≤ c ∧ q.names.length ≤ 9223372036854775807 ∧ ((∀ z ∈ x.2, z.block < W.heap.size) → ∃ L : List (List UInt8), L.length = q.names.length ∧ Nmz W A L) := by
  obtain ⟨xs, m, _, hxx, hl, hxl, hg⟩ := DataW.trod_struct Tryz.underlying36 h
  rw [cells_reply] at hl
  match cs, hl, xs, hxl, hxx with
  | [c0, c1, c2, c3, c4, c5, c6], _, [y0, y1, y2, y3, y4], _, hxx =>
    have g0 : DataW.trod enc Tryz.prog W base spare held m 31 ((List.drop 0 [c0, c1, c2, c3, c4, c5, c6]).take (Tryz.prog.cellsOf 31)) = some y0 := hg 0 _ rfl
    rw [cells_errno] at g0
    have g1 : DataW.trod enc Tryz.prog W base spare held m 3 ((List.drop 1 [c0, c1, c2, c3, c4, c5, c6]).take (Tryz.prog.cellsOf 3)) = some y1 := hg 1 _ rfl
    rw [cells_int] at g1
    have g2 : DataW.trod enc Tryz.prog W base spare held m 9 ((List.drop 2 [c0, c1, c2, c3, c4, c5, c6]).take (Tryz.prog.cellsOf 9)) = some y2 := hg 2 _ rfl
    rw [cells_string] at g2
    have g3 : DataW.trod enc Tryz.prog W base spare held m 32 ((List.drop 3 [c0, c1, c2, c3, c4, c5, c6]).take (Tryz.prog.cellsOf 32)) = some y3 := hg 3 _ rfl
    rw [cells_names] at g3
    have g4 : DataW.trod enc Tryz.prog W base spare held m 34 ((List.drop 4 [c0, c1, c2, c3, c4, c5, c6]).take (Tryz.prog.cellsOf 34)) = some y4 := hg 4 _ rfl
    rw [cells_info] at g4
    obtain ⟨k0, rfl, _⟩ := one_errno g0
    obtain ⟨k1, rfl, _⟩ := one_int g1
    obtain ⟨s, rfl⟩ := one_string g2
    obtain ⟨A, n, c, rfl, hn, hn2, hN⟩ := one_names g3
    obtain ⟨a, b, d, hc⟩ := open_info g4
    cases hc
    refine ⟨⟨k0, k1, s.data.toList, List.replicate n [], a, b, d⟩, A, c, ?_, by simpa using hn, by simpa using hn2, fun hz => ?_⟩
    · unfold repC
      simp only [List.length_replicate]
    · simp only [List.length_replicate]
      refine hN fun q hq => hz q ?_
      subst hxx
      simp [hq]
set_option maxRecDepth 100000 in
theorem open_event {cs : List Value} (h : DataW.trod enc Tryz.prog W base spare held fuel 53 cs = some x) : ∃ k : Ev, cs = (evC k).toList ∧ I64 k.cl ∧ I64 k.fd ∧ k.q.names.length ≤ k.c := by
  obtain ⟨xs, m, _, hxx, hl, hxl, hg⟩ := DataW.trod_struct Tryz.underlying53 h
  rw [cells_event] at hl
  match cs, hl, xs, hxl, hxx with
  | [c0, c1, c2, c3, c4, c5, c6, c7, c8, c9, c10, c11, c12, c13, c14, c15, c16, c17, c18, c19], _, [y0, y1, y2, y3, y4, y5, y6], _, hxx =>
    have g0 : DataW.trod enc Tryz.prog W base spare held m 3 ((List.drop 0 [c0, c1, c2, c3, c4, c5, c6, c7, c8, c9, c10, c11, c12, c13, c14, c15, c16, c17, c18, c19]).take (Tryz.prog.cellsOf 3)) = some y0 := hg 0 _ rfl
    rw [cells_int] at g0
    have g1 : DataW.trod enc Tryz.prog W base spare held m 3 ((List.drop 1 [c0, c1, c2, c3, c4, c5, c6, c7, c8, c9, c10, c11, c12, c13, c14, c15, c16, c17, c18, c19]).take (Tryz.prog.cellsOf 3)) = some y1 := hg 1 _ rfl
    rw [cells_int] at g1
    have g2 : DataW.trod enc Tryz.prog W base spare held m 24 ((List.drop 2 [c0, c1, c2, c3, c4, c5, c6, c7, c8, c9, c10, c11, c12, c13, c14, c15, c16, c17, c18, c19]).take (Tryz.prog.cellsOf 24)) = some y2 := hg 2 _ rfl
    rw [cells_call] at g2
    have g3 : DataW.trod enc Tryz.prog W base spare held m 3 ((List.drop 10 [c0, c1, c2, c3, c4, c5, c6, c7, c8, c9, c10, c11, c12, c13, c14, c15, c16, c17, c18, c19]).take (Tryz.prog.cellsOf 3)) = some y3 := hg 3 _ rfl
    rw [cells_int] at g3
    have g4 : DataW.trod enc Tryz.prog W base spare held m 3 ((List.drop 11 [c0, c1, c2, c3, c4, c5, c6, c7, c8, c9, c10, c11, c12, c13, c14, c15, c16, c17, c18, c19]).take (Tryz.prog.cellsOf 3)) = some y4 := hg 4 _ rfl
    rw [cells_int] at g4
    have g5 : DataW.trod enc Tryz.prog W base spare held m 3 ((List.drop 12 [c0, c1, c2, c3, c4, c5, c6, c7, c8, c9, c10, c11, c12, c13, c14, c15, c16, c17, c18, c19]).take (Tryz.prog.cellsOf 3)) = some y5 := hg 5 _ rfl
    rw [cells_int] at g5
    have g6 : DataW.trod enc Tryz.prog W base spare held m 36 ((List.drop 13 [c0, c1, c2, c3, c4, c5, c6, c7, c8, c9, c10, c11, c12, c13, c14, c15, c16, c17, c18, c19]).take (Tryz.prog.cellsOf 36)) = some y6 := hg 6 _ rfl
    rw [cells_reply] at g6
    obtain ⟨k0, rfl, w0⟩ := one_int g0
    obtain ⟨k1, rfl, _⟩ := one_int g1
    obtain ⟨kind, flags, fd, off, n, p, p2, data, hc, wf⟩ := open_call g2
    obtain ⟨k3, rfl, _⟩ := one_int g3
    obtain ⟨k4, rfl, _⟩ := one_int g4
    obtain ⟨k5, rfl, _⟩ := one_int g5
    obtain ⟨q, A, c, hq, hn, _, _⟩ := open_reply g6
    cases hc
    cases hq
    exact ⟨⟨k0, k1, kind, p, p2, flags, fd, off, n, data, k3, k4, k5, q, A, c⟩, rfl, w0, wf, hn⟩
end

set_option maxRecDepth 100000 in
theorem open_evs {H : Type} {enc : TypeId × Value → H} {W : World} {base : Nat} {v : Value} {d : DataW H} {p : List MemPlace} (hv : Value.okWide Tryz.prog W .any base 49 v) (hd : DataW.Trod enc Tryz.prog W 0 (fun _ => true) true 49 v d p) (hlt : ∀ x ∈ p, x.block < W.heap.size) :
    ∃ (A : Option Addr) (L : List Ev) (c : Nat), v = .slice A L.length c ∧ L.length ≤ 9223372036854775807 ∧ Evs W A L ∧ ∀ a ∈ L, I64 a.cl ∧ I64 a.fd ∧ a.q.names.length ≤ a.c := by
  obtain ⟨a0, len, cap, rfl⟩ := Go.WideShapes.okWide_slice Tryz.underlying49 hv
  obtain ⟨fuel, hf⟩ := hd
  rcases Go.Deep.open_slice Tryz.underlying49 hf with ⟨hcs, _⟩ | ⟨a, len', cap', m, n, D, Pl, hcs, _, hl, hm, hmm, hx, hi⟩
  · simp [Value.cells] at hcs
    obtain ⟨rfl, rfl, rfl⟩ := hcs
    exact ⟨none, [], 0, rfl, by simp, Or.inl rfl, by simp⟩
  · simp [Value.cells] at hcs
    obtain ⟨rfl, rfl, rfl⟩ := hcs
    simp only [if_true] at hmm
    subst hmm
    unfold maxLen at hm
    rw [cells_event] at hi hx
    simp only [Prod.mk.injEq] at hx
    obtain ⟨_, rfl⟩ := hx
    obtain ⟨b, o, spot⟩ := a
    have pick : ∀ i, i < len → ∃ k : Ev, (∀ j v, (evC k).toList[j]? = some v → W.cell? (((⟨b, o, spot⟩ : Addr).add (i * 20)).add j) = some v) ∧ I64 k.cl ∧ I64 k.fd ∧ k.q.names.length ≤ k.c := fun i hil => by
      obtain ⟨cs', h1, h2⟩ := hi i (by omega)
      obtain ⟨k, rfl, w⟩ := open_event h2
      obtain ⟨_, _, hat⟩ := World.cells?_some h1
      refine ⟨k, fun j v hj => ?_, w⟩
      have hj10 : j < 20 := (List.getElem?_eq_some_iff.1 hj).1
      rw [hat j hj10, hj]
    haveI : Inhabited Ev := ⟨⟨0, 0, 0, ⟨#[]⟩, ⟨#[]⟩, 0, 0, 0, 0, ⟨#[]⟩, 0, 0, 0, Pz.er 0, none, 0⟩⟩
    obtain ⟨f, hf2⟩ := Go.Deep.choose_lt (α := Ev) pick
    refine ⟨some ⟨b, o, spot⟩, (List.range len).map f, m, by simp, by simp; omega, ?_, fun a ha => ?_⟩
    · by_cases h0 : len = 0
      · left
        rw [h0]
        rfl
      · right
        have hspot : spot = none := by simpa [Addr.add] using World.cell?_spot ((hf2 0 (by omega)).1 0 _ rfl)
        subst hspot
        refine ⟨b, o, rfl, hlt (.cell b o) (List.mem_append_left _ (MemPlace.mem_row.2 ⟨0, by omega, by simp⟩)), fun j a hj => ?_⟩
        rw [List.getElem?_map] at hj
        cases hs : (List.range len)[j]? with
        | none => rw [hs] at hj; cases hj
        | some y =>
          rw [hs] at hj
          cases hj
          have hjl : j < len := by simpa using (List.getElem?_eq_some_iff.1 hs).1
          have hy : y = j := by
            rw [List.getElem?_range hjl] at hs
            exact (Option.some.inj hs).symm
          subst hy
          have h : ∀ j v, (evC (f y)).toList[j]? = some v → W.cell? ⟨b, o + y * 20 + j, none⟩ = some v := fun j v hj => by
            have := (hf2 y hjl).1 j v hj
            rw [Addr.add_lit, Addr.add_lit] at this
            exact this
          exact ⟨h 0 _ rfl, h 1 _ rfl, h 2 _ rfl, h 3 _ rfl, h 4 _ rfl, h 5 _ rfl, h 6 _ rfl, h 7 _ rfl, h 8 _ rfl, h 9 _ rfl, h 10 _ rfl, h 11 _ rfl, h 12 _ rfl, h 13 _ rfl, h 14 _ rfl, h 15 _ rfl, h 16 _ rfl, h 17 _ rfl, h 18 _ rfl, h 19 _ rfl⟩
    · rw [List.mem_map] at ha
      obtain ⟨i, hir, rfl⟩ := ha
      exact (hf2 i (List.mem_range.1 hir)).2

set_option maxRecDepth 100000 in
theorem open_rep {H : Type} {enc : TypeId × Value → H} {W : World} {base : Nat} {v : Value} {d : DataW H} {p : List MemPlace} (hv : Value.okWide Tryz.prog W .any base 36 v) (hd : DataW.Trod enc Tryz.prog W 0 (fun _ => true) true 36 v d p) (hlt : ∀ x ∈ p, x.block < W.heap.size) :
    ∃ (q : Pz.Rep) (A : Option Addr) (c : Nat), v = repV q A c ∧ Nmz W A q.names ∧ q.names.length ≤ 9223372036854775807 := by
  obtain ⟨cs, rfl, _⟩ := okWide_struct Tryz.underlying36 hv
  obtain ⟨fuel, hf⟩ := hd
  obtain ⟨q, A, c, hc, _, hn, hN⟩ := open_reply hf
  obtain ⟨L, hL, hNm⟩ := hN hlt
  refine ⟨{ q with names := L }, A, c, ?_, hNm, by show L.length ≤ _; omega⟩
  obtain ⟨l⟩ := cs
  have : l = _ := hc
  unfold repV
  rw [this]
  unfold repC
  show _ = Value.agg #[_, _, _, .slice A L.length c, _, _, _]
  rw [hL]

end Go.Proofs.YtbpejjmfdhkfhaaGreatDoor
