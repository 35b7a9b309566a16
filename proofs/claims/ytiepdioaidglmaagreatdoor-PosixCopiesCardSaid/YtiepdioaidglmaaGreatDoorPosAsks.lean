/- An argument of the laws opened: a row of what clients ask. -/
import Derived.Test.YtiepdioaidglmaaGreatDoorPosOpen
import Derived.Test.YtiepdioaidglmaaGreatDoorPosBoth
set_option linter.unusedVariables false
set_option linter.unusedSimpArgs false
namespace Go.Proofs.YtiepdioaidglmaaGreatDoor
open Go.ChangeShapes Go.WideShapes Go.ChangeAt Go.RowKit

set_option maxRecDepth 100000 in
theorem open_asks {H : Type} {enc : TypeId × Value → H} {W : World} {base : Nat} {v : Value} {d : DataW H} {p : List MemPlace} (hv : Value.okWide Tryz.prog W .any base 22 v) (hd : DataW.Trod enc Tryz.prog W 0 (fun _ => true) true 22 v d p) (hlt : ∀ x ∈ p, x.block < W.heap.size) :
    ∃ (A : Option Addr) (L : List Ask) (c : Nat), v = .slice A L.length c ∧ L.length ≤ 9223372036854775807 ∧ Asks W A L ∧ ∀ a ∈ L, I64 a.cl ∧ I64 a.fd := by
  obtain ⟨a0, len, cap, rfl⟩ := Go.WideShapes.okWide_slice Tryz.underlying22 hv
  obtain ⟨fuel, hf⟩ := hd
  rcases Go.Deep.open_slice Tryz.underlying22 hf with ⟨hcs, _⟩ | ⟨a, len', cap', m, n, D, Pl, hcs, _, hl, hm, hmm, hx, hi⟩
  · simp [Value.cells] at hcs
    obtain ⟨rfl, rfl, rfl⟩ := hcs
    exact ⟨none, [], 0, rfl, by simp, Or.inl rfl, by simp⟩
  · simp [Value.cells] at hcs
    obtain ⟨rfl, rfl, rfl⟩ := hcs
    simp only [if_true] at hmm
    subst hmm
    unfold maxLen at hm
    rw [cells_ask] at hi hx
    simp only [Prod.mk.injEq] at hx
    obtain ⟨_, rfl⟩ := hx
    obtain ⟨b, o, spot⟩ := a
    have pick : ∀ i, i < len → ∃ k : Ask, (∀ j v, [Value.int .i64 k.cl, .int .i64 k.kind, .string k.p, .string k.p2, .int .i64 k.flags, .int .i64 k.fd, .int .i64 k.off, .int .i64 k.n, .string k.data, .bool k.drop][j]? = some v → W.cell? (((⟨b, o, spot⟩ : Addr).add (i * 10)).add j) = some v) ∧ I64 k.cl ∧ I64 k.fd := fun i hil => by
      obtain ⟨cs', h1, h2⟩ := hi i (by omega)
      obtain ⟨cl, kind, flags, fd, off, n, p, p2, data, drop, rfl, w0, w4⟩ := open_ask h2
      obtain ⟨_, _, hat⟩ := World.cells?_some h1
      refine ⟨⟨cl, kind, p, p2, flags, fd, off, n, data, drop⟩, fun j v hj => ?_, w0, w4⟩
      have hj10 : j < 10 := (List.getElem?_eq_some_iff.1 hj).1
      rw [hat j hj10, hj]
    haveI : Inhabited Ask := ⟨⟨0, 0, ⟨#[]⟩, ⟨#[]⟩, 0, 0, 0, 0, ⟨#[]⟩, false⟩⟩
    obtain ⟨f, hf2⟩ := Go.Deep.choose_lt (α := Ask) pick
    refine ⟨some ⟨b, o, spot⟩, (List.range len).map f, m, by simp, by simp; omega, ?_, fun a ha => ?_⟩
    · by_cases h0 : len = 0
      · left
        rw [h0]
        rfl
      · right
        have hspot : spot = none := by simpa [Addr.add] using World.cell?_spot ((hf2 0 (by omega)).1 0 _ rfl)
        subst hspot
        refine ⟨b, o, rfl, hlt (.cell b o) (List.mem_append_left _ (MemPlace.mem_row.2 ⟨0, by omega, by simp⟩)), fun j a hj => ?_⟩
        rw [List.getElem?_map] at hj
        cases hs : (List.range len)[j]? with
        | none => rw [hs] at hj; cases hj
        | some y =>
          rw [hs] at hj
          cases hj
          have hjl : j < len := by simpa using (List.getElem?_eq_some_iff.1 hs).1
          have hy : y = j := by
            rw [List.getElem?_range hjl] at hs
            exact (Option.some.inj hs).symm
          subst hy
          have h : ∀ j v, [Value.int .i64 (f y).cl, .int .i64 (f y).kind, .string (f y).p, .string (f y).p2, .int .i64 (f y).flags, .int .i64 (f y).fd, .int .i64 (f y).off, .int .i64 (f y).n, .string (f y).data, .bool (f y).drop][j]? = some v → W.cell? ⟨b, o + y * 10 + j, none⟩ = some v := fun j v hj => by
            have := (hf2 y hjl).1 j v hj
            rw [Addr.add_lit, Addr.add_lit] at this
            exact this
          exact ⟨h 0 _ rfl, h 1 _ rfl, h 2 _ rfl, h 3 _ rfl, h 4 _ rfl, h 5 _ rfl, h 6 _ rfl, h 7 _ rfl, h 8 _ rfl, h 9 _ rfl⟩
    · rw [List.mem_map] at ha
      obtain ⟨i, hir, rfl⟩ := ha
      exact (hf2 i (List.mem_range.1 hir)).2

set_option maxRecDepth 100000 in
theorem open_callV {H : Type} {enc : TypeId × Value → H} {W : World} {base : Nat} {v : Value} {d : DataW H} {p : List MemPlace} (hv : Value.okWide Tryz.prog W .any base 38 v) (hd : DataW.Trod enc Tryz.prog W 0 (fun _ => true) true 38 v d p) :
    ∃ (kind flags fd off n : Int) (pa pb data : ByteArray), v = callV kind pa pb flags fd off n data ∧ I64 fd := by
  obtain ⟨cs, rfl, _⟩ := okWide_struct Tryz.underlying38 hv
  obtain ⟨fuel, hf⟩ := hd
  obtain ⟨kind, flags, fd, off, n, pa, pb, data, hc, hw⟩ := open_call hf
  refine ⟨kind, flags, fd, off, n, pa, pb, data, ?_, hw⟩
  obtain ⟨l⟩ := cs
  unfold callV
  have : l = _ := hc
  rw [this]

end Go.Proofs.YtiepdioaidglmaaGreatDoor
