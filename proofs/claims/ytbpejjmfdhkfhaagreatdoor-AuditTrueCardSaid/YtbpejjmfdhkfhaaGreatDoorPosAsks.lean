/- An argument of the laws opened: what a client asks, and rows of such. -/
import Derived.Test.YtbpejjmfdhkfhaaGreatDoorRows
import Derived.Test.YtbpejjmfdhkfhaaGreatDoorRow
import Derived.Deep.Slices
import Derived.Deep.Fields
import Derived.ChangeSame
import Derived.Test.YtbpejjmfdhkfhaaGreatDoorPosBoth
set_option linter.unusedVariables false
set_option linter.unusedSimpArgs false
namespace Go.Proofs.YtbpejjmfdhkfhaaGreatDoor
open Go.ChangeShapes Go.WideShapes Go.ChangeAt Go.RowKit

theorem cells_int : Tryz.prog.cellsOf 3 = 1 := by kernel_rfl
theorem cells_string : Tryz.prog.cellsOf 9 = 1 := by kernel_rfl
theorem cells_bool : Tryz.prog.cellsOf 4 = 1 := by kernel_rfl
theorem cells_call : Tryz.prog.cellsOf 24 = 8 := by kernel_rfl
theorem cells_ask : Tryz.prog.cellsOf 26 = 10 := by kernel_rfl

section
variable {H : Type} {enc : TypeId × Value → H} {W : World} {base : Nat} {spare : Nat → Bool} {held : Bool} {fuel : Nat} {x : DataW H × List MemPlace}
theorem one_int {v : Value} (h : DataW.trod enc Tryz.prog W base spare held fuel 3 [v] = some x) : ∃ n, v = .int .i64 n ∧ (Lit.int .i64 n).wf = true := by
  obtain ⟨n, hc, _, hw⟩ := DataW.trod_int Tryz.underlying3 h
  cases hc
  exact ⟨n, rfl, hw⟩
theorem one_string {v : Value} (h : DataW.trod enc Tryz.prog W base spare held fuel 9 [v] = some x) : ∃ s, v = .string s := by
  obtain ⟨s, hc, _⟩ := DataW.trod_string Tryz.underlying9 h
  cases hc
  exact ⟨s, rfl⟩
theorem one_bool {v : Value} (h : DataW.trod enc Tryz.prog W base spare held fuel 4 [v] = some x) : ∃ b, v = .bool b := by
  obtain ⟨b, hc, _⟩ := DataW.trod_bool Tryz.underlying4 h
  cases hc
  exact ⟨b, rfl⟩
set_option maxRecDepth 100000 in
theorem open_call {cs : List Value} (h : DataW.trod enc Tryz.prog W base spare held fuel 24 cs = some x) :
    ∃ (kind flags fd off n : Int) (p p2 data : ByteArray), cs = [.int .i64 kind, .string p, .string p2, .int .i64 flags, .int .i64 fd, .int .i64 off, .int .i64 n, .string data] ∧ (Lit.int .i64 fd).wf = true := by
  obtain ⟨xs, m, _, _, hl, hxl, hg⟩ := DataW.trod_struct Tryz.underlying24 h
  rw [cells_call] at hl
  match cs, hl, xs, hxl with
  | [c0, c1, c2, c3, c4, c5, c6, c7], _, [y0, y1, y2, y3, y4, y5, y6, y7], _ =>
    have g0 : DataW.trod enc Tryz.prog W base spare held m 3 ((List.drop 0 [c0, c1, c2, c3, c4, c5, c6, c7]).take (Tryz.prog.cellsOf 3)) = some y0 := hg 0 _ rfl
    rw [cells_int] at g0
    have g1 : DataW.trod enc Tryz.prog W base spare held m 9 ((List.drop 1 [c0, c1, c2, c3, c4, c5, c6, c7]).take (Tryz.prog.cellsOf 9)) = some y1 := hg 1 _ rfl
    rw [cells_string] at g1
    have g2 : DataW.trod enc Tryz.prog W base spare held m 9 ((List.drop 2 [c0, c1, c2, c3, c4, c5, c6, c7]).take (Tryz.prog.cellsOf 9)) = some y2 := hg 2 _ rfl
    rw [cells_string] at g2
    have g3 : DataW.trod enc Tryz.prog W base spare held m 3 ((List.drop 3 [c0, c1, c2, c3, c4, c5, c6, c7]).take (Tryz.prog.cellsOf 3)) = some y3 := hg 3 _ rfl
    rw [cells_int] at g3
    have g4 : DataW.trod enc Tryz.prog W base spare held m 3 ((List.drop 4 [c0, c1, c2, c3, c4, c5, c6, c7]).take (Tryz.prog.cellsOf 3)) = some y4 := hg 4 _ rfl
    rw [cells_int] at g4
    have g5 : DataW.trod enc Tryz.prog W base spare held m 3 ((List.drop 5 [c0, c1, c2, c3, c4, c5, c6, c7]).take (Tryz.prog.cellsOf 3)) = some y5 := hg 5 _ rfl
    rw [cells_int] at g5
    have g6 : DataW.trod enc Tryz.prog W base spare held m 3 ((List.drop 6 [c0, c1, c2, c3, c4, c5, c6, c7]).take (Tryz.prog.cellsOf 3)) = some y6 := hg 6 _ rfl
    rw [cells_int] at g6
    have g7 : DataW.trod enc Tryz.prog W base spare held m 9 ((List.drop 7 [c0, c1, c2, c3, c4, c5, c6, c7]).take (Tryz.prog.cellsOf 9)) = some y7 := hg 7 _ rfl
    rw [cells_string] at g7
    obtain ⟨k0, rfl, _⟩ := one_int g0
    obtain ⟨k1, rfl⟩ := one_string g1
    obtain ⟨k2, rfl⟩ := one_string g2
    obtain ⟨k3, rfl, _⟩ := one_int g3
    obtain ⟨k4, rfl, w4⟩ := one_int g4
    obtain ⟨k5, rfl, _⟩ := one_int g5
    obtain ⟨k6, rfl, _⟩ := one_int g6
    obtain ⟨k7, rfl⟩ := one_string g7
    exact ⟨k0, k3, k4, k5, k6, k1, k2, k7, rfl, w4⟩
set_option maxRecDepth 100000 in
theorem open_ask {cs : List Value} (h : DataW.trod enc Tryz.prog W base spare held fuel 26 cs = some x) :
    ∃ (cl kind flags fd off n : Int) (p p2 data : ByteArray) (drop : Bool), cs = [.int .i64 cl, .int .i64 kind, .string p, .string p2, .int .i64 flags, .int .i64 fd, .int .i64 off, .int .i64 n, .string data, .bool drop] ∧ (Lit.int .i64 cl).wf = true ∧ (Lit.int .i64 fd).wf = true := by
  obtain ⟨xs, m, _, _, hl, hxl, hg⟩ := DataW.trod_struct Tryz.underlying26 h
  rw [cells_ask] at hl
  match cs, hl, xs, hxl with
  | [c0, c1, c2, c3, c4, c5, c6, c7, c8, c9], _, [y0, y1, y2], _ =>
    have g0 : DataW.trod enc Tryz.prog W base spare held m 3 ((List.drop 0 [c0, c1, c2, c3, c4, c5, c6, c7, c8, c9]).take (Tryz.prog.cellsOf 3)) = some y0 := hg 0 _ rfl
    rw [cells_int] at g0
    have g1 : DataW.trod enc Tryz.prog W base spare held m 24 ((List.drop 1 [c0, c1, c2, c3, c4, c5, c6, c7, c8, c9]).take (Tryz.prog.cellsOf 24)) = some y1 := hg 1 _ rfl
    rw [cells_call] at g1
    have g2 : DataW.trod enc Tryz.prog W base spare held m 4 ((List.drop 9 [c0, c1, c2, c3, c4, c5, c6, c7, c8, c9]).take (Tryz.prog.cellsOf 4)) = some y2 := hg 2 _ rfl
    rw [cells_bool] at g2
    obtain ⟨k0, rfl, w0⟩ := one_int g0
    obtain ⟨kind, flags, fd, off, n, p, p2, data, hc, wf⟩ := open_call g1
    obtain ⟨b, rfl⟩ := one_bool g2
    cases hc
    exact ⟨k0, kind, flags, fd, off, n, p, p2, data, b, rfl, w0, wf⟩
end
end Go.Proofs.YtbpejjmfdhkfhaaGreatDoor

/- An argument of the laws opened: a row of what clients ask. -/
namespace Go.Proofs.YtbpejjmfdhkfhaaGreatDoor
open Go.ChangeShapes Go.WideShapes Go.ChangeAt Go.RowKit

set_option maxRecDepth 100000 in
theorem open_asks {H : Type} {enc : TypeId × Value → H} {W : World} {base : Nat} {v : Value} {d : DataW H} {p : List MemPlace} (hv : Value.okWide Tryz.prog W .any base 22 v) (hd : DataW.Trod enc Tryz.prog W 0 (fun _ => true) true 22 v d p) (hlt : ∀ x ∈ p, x.block < W.heap.size) :
    ∃ (A : Option Addr) (L : List Ask) (c : Nat), v = .slice A L.length c ∧ L.length ≤ 9223372036854775807 ∧ Asks W A L ∧ ∀ a ∈ L, I64 a.cl ∧ I64 a.fd := by
  obtain ⟨a0, len, cap, rfl⟩ := Go.WideShapes.okWide_slice Tryz.underlying22 hv
  obtain ⟨fuel, hf⟩ := hd
  rcases Go.Deep.open_slice Tryz.underlying22 hf with ⟨hcs, _⟩ | ⟨a, len', cap', m, n, D, Pl, hcs, _, hl, hm, hmm, hx, hi⟩
  · simp [Value.cells] at hcs
    obtain ⟨rfl, rfl, rfl⟩ := hcs
    exact ⟨none, [], 0, rfl, by simp, Or.inl rfl, by simp⟩
  · simp [Value.cells] at hcs
    obtain ⟨rfl, rfl, rfl⟩ := hcs
    simp only [if_true] at hmm
    subst hmm
    unfold maxLen at hm
    rw [cells_ask] at hi hx
    simp only [Prod.mk.injEq] at hx
    obtain ⟨_, rfl⟩ := hx
    obtain ⟨b, o, spot⟩ := a
    have pick : ∀ i, i < len → ∃ k : Ask, (∀ j v, [Value.int .i64 k.cl, .int .i64 k.kind, .string k.p, .string k.p2, .int .i64 k.flags, .int .i64 k.fd, .int .i64 k.off, .int .i64 k.n, .string k.data, .bool k.drop][j]? = some v → W.cell? (((⟨b, o, spot⟩ : Addr).add (i * 10)).add j) = some v) ∧ I64 k.cl ∧ I64 k.fd := fun i hil => by
      obtain ⟨cs', h1, h2⟩ := hi i (by omega)
      obtain ⟨cl, kind, flags, fd, off, n, p, p2, data, drop, rfl, w0, w4⟩ := open_ask h2
      obtain ⟨_, _, hat⟩ := World.cells?_some h1
      refine ⟨⟨cl, kind, p, p2, flags, fd, off, n, data, drop⟩, fun j v hj => ?_, w0, w4⟩
      have hj10 : j < 10 := (List.getElem?_eq_some_iff.1 hj).1
      rw [hat j hj10, hj]
    haveI : Inhabited Ask := ⟨⟨0, 0, ⟨#[]⟩, ⟨#[]⟩, 0, 0, 0, 0, ⟨#[]⟩, false⟩⟩
    obtain ⟨f, hf2⟩ := Go.Deep.choose_lt (α := Ask) pick
    refine ⟨some ⟨b, o, spot⟩, (List.range len).map f, m, by simp, by simp; omega, ?_, fun a ha => ?_⟩
    · by_cases h0 : len = 0
      · left
        rw [h0]
        rfl
      · right
        have hspot : spot = none := by simpa [Addr.add] using World.cell?_spot ((hf2 0 (by omega)).1 0 _ rfl)
        subst hspot
        refine ⟨b, o, rfl, hlt (.cell b o) (List.mem_append_left _ (MemPlace.mem_row.2 ⟨0, by omega, by simp⟩)), fun j a hj => ?_⟩
        rw [List.getElem?_map] at hj
        cases hs : (List.range len)[j]? with
        | none => rw [hs] at hj; cases hj
        | some y =>
          rw [hs] at hj
          cases hj
          have hjl : j < len := by simpa using (List.getElem?_eq_some_iff.1 hs).1
          have hy : y = j := by
            rw [List.getElem?_range hjl] at hs
            exact (Option.some.inj hs).symm
          subst hy
          have h : ∀ j v, [Value.int .i64 (f y).cl, .int .i64 (f y).kind, .string (f y).p, .string (f y).p2, .int .i64 (f y).flags, .int .i64 (f y).fd, .int .i64 (f y).off, .int .i64 (f y).n, .string (f y).data, .bool (f y).drop][j]? = some v → W.cell? ⟨b, o + y * 10 + j, none⟩ = some v := fun j v hj => by
            have := (hf2 y hjl).1 j v hj
            rw [Addr.add_lit, Addr.add_lit] at this
            exact this
          exact ⟨h 0 _ rfl, h 1 _ rfl, h 2 _ rfl, h 3 _ rfl, h 4 _ rfl, h 5 _ rfl, h 6 _ rfl, h 7 _ rfl, h 8 _ rfl, h 9 _ rfl⟩
    · rw [List.mem_map] at ha
      obtain ⟨i, hir, rfl⟩ := ha
      exact (hf2 i (List.mem_range.1 hir)).2

set_option maxRecDepth 100000 in
theorem open_callV {H : Type} {enc : TypeId × Value → H} {W : World} {base : Nat} {v : Value} {d : DataW H} {p : List MemPlace} (hv : Value.okWide Tryz.prog W .any base 24 v) (hd : DataW.Trod enc Tryz.prog W 0 (fun _ => true) true 24 v d p) :
    ∃ (kind flags fd off n : Int) (pa pb data : ByteArray), v = callV kind pa pb flags fd off n data ∧ I64 fd := by
  obtain ⟨cs, rfl, _⟩ := okWide_struct Tryz.underlying24 hv
  obtain ⟨fuel, hf⟩ := hd
  obtain ⟨kind, flags, fd, off, n, pa, pb, data, hc, hw⟩ := open_call hf
  refine ⟨kind, flags, fd, off, n, pa, pb, data, ?_, hw⟩
  obtain ⟨l⟩ := cs
  unfold callV
  have : l = _ := hc
  rw [this]

end Go.Proofs.YtbpejjmfdhkfhaaGreatDoor
