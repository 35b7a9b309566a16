/- An argument of the laws opened: what a client asks, and rows of such. -/
import Derived.Test.YtiepdioaidglmaaGreatDoorRows
import Derived.Test.YtiepdioaidglmaaGreatDoorRow
import Derived.Deep.Slices
import Derived.Deep.Fields
import Derived.ChangeSame
set_option linter.unusedVariables false
set_option linter.unusedSimpArgs false
namespace Go.Proofs.YtiepdioaidglmaaGreatDoor
open Go.ChangeShapes Go.WideShapes Go.ChangeAt Go.RowKit

theorem cells_int : Tryz.prog.cellsOf 3 = 1 := by kernel_rfl
theorem cells_string : Tryz.prog.cellsOf 9 = 1 := by kernel_rfl
theorem cells_bool : Tryz.prog.cellsOf 4 = 1 := by kernel_rfl
theorem cells_call : Tryz.prog.cellsOf 38 = 8 := by kernel_rfl
theorem cells_ask : Tryz.prog.cellsOf 48 = 10 := by kernel_rfl

section
variable {H : Type} {enc : TypeId × Value → H} {W : World} {base : Nat} {spare : Nat → Bool} {held : Bool} {fuel : Nat} {x : DataW H × List MemPlace}
theorem one_int {v : Value} (h : DataW.trod enc Tryz.prog W base spare held fuel 3 [v] = some x) : ∃ n, v = .int .i64 n ∧ (Lit.int .i64 n).wf = true := by
  obtain ⟨n, hc, _, hw⟩ := DataW.trod_int Tryz.underlying3 h
  cases hc
  exact ⟨n, rfl, hw⟩
theorem one_string {v : Value} (h : DataW.trod enc Tryz.prog W base spare held fuel 9 [v] = some x) : ∃ s, v = .string s := by
  obtain ⟨s, hc, _⟩ := DataW.trod_string Tryz.underlying9 h
  cases hc
  exact ⟨s, rfl⟩
theorem one_bool {v : Value} (h : DataW.trod enc Tryz.prog W base spare held fuel 4 [v] = some x) : ∃ b, v = .bool b := by
  obtain ⟨b, hc, _⟩ := DataW.trod_bool Tryz.underlying4 h
  cases hc
  exact ⟨b, rfl⟩
set_option maxRecDepth 100000 in
theorem open_call {cs : List Value} (h : DataW.trod enc Tryz.prog W base spare held fuel 38 cs = some x) :
    ∃ (kind flags fd off n : Int) (p p2 data : ByteArray), cs = [.int .i64 kind, .string p, .string p2, .int .i64 flags, .int .i64 fd, .int .i64 off, .int .i64 n, .string data] ∧ (Lit.int .i64 fd).wf = true := by
  obtain ⟨xs, m, _, _, hl, hxl, hg⟩ := DataW.trod_struct Tryz.underlying38 h
  rw [cells_call] at hl
  match cs, hl, xs, hxl with
  | [c0, c1, c2, c3, c4, c5, c6, c7], _, [y0, y1, y2, y3, y4, y5, y6, y7], _ =>
    have g0 : DataW.trod enc Tryz.prog W base spare held m 3 ((List.drop 0 [c0, c1, c2, c3, c4, c5, c6, c7]).take (Tryz.prog.cellsOf 3)) = some y0 := hg 0 _ rfl
    rw [cells_int] at g0
    have g1 : DataW.trod enc Tryz.prog W base spare held m 9 ((List.drop 1 [c0, c1, c2, c3, c4, c5, c6, c7]).take (Tryz.prog.cellsOf 9)) = some y1 := hg 1 _ rfl
    rw [cells_string] at g1
    have g2 : DataW.trod enc Tryz.prog W base spare held m 9 ((List.drop 2 [c0, c1, c2, c3, c4, c5, c6, c7]).take (Tryz.prog.cellsOf 9)) = some y2 := hg 2 _ rfl
    rw [cells_string] at g2
    have g3 : DataW.trod enc Tryz.prog W base spare held m 3 ((List.drop 3 [c0, c1, c2, c3, c4, c5, c6, c7]).take (Tryz.prog.cellsOf 3)) = some y3 := hg 3 _ rfl
    rw [cells_int] at g3
    have g4 : DataW.trod enc Tryz.prog W base spare held m 3 ((List.drop 4 [c0, c1, c2, c3, c4, c5, c6, c7]).take (Tryz.prog.cellsOf 3)) = some y4 := hg 4 _ rfl
    rw [cells_int] at g4
    have g5 : DataW.trod enc Tryz.prog W base spare held m 3 ((List.drop 5 [c0, c1, c2, c3, c4, c5, c6, c7]).take (Tryz.prog.cellsOf 3)) = some y5 := hg 5 _ rfl
    rw [cells_int] at g5
    have g6 : DataW.trod enc Tryz.prog W base spare held m 3 ((List.drop 6 [c0, c1, c2, c3, c4, c5, c6, c7]).take (Tryz.prog.cellsOf 3)) = some y6 := hg 6 _ rfl
    rw [cells_int] at g6
    have g7 : DataW.trod enc Tryz.prog W base spare held m 9 ((List.drop 7 [c0, c1, c2, c3, c4, c5, c6, c7]).take (Tryz.prog.cellsOf 9)) = some y7 := hg 7 _ rfl
    rw [cells_string] at g7
    obtain ⟨k0, rfl, _⟩ := one_int g0
    obtain ⟨k1, rfl⟩ := one_string g1
    obtain ⟨k2, rfl⟩ := one_string g2
    obtain ⟨k3, rfl, _⟩ := one_int g3
    obtain ⟨k4, rfl, w4⟩ := one_int g4
    obtain ⟨k5, rfl, _⟩ := one_int g5
    obtain ⟨k6, rfl, _⟩ := one_int g6
    obtain ⟨k7, rfl⟩ := one_string g7
    exact ⟨k0, k3, k4, k5, k6, k1, k2, k7, rfl, w4⟩
set_option maxRecDepth 100000 in
theorem open_ask {cs : List Value} (h : DataW.trod enc Tryz.prog W base spare held fuel 48 cs = some x) :
    ∃ (cl kind flags fd off n : Int) (p p2 data : ByteArray) (drop : Bool), cs = [.int .i64 cl, .int .i64 kind, .string p, .string p2, .int .i64 flags, .int .i64 fd, .int .i64 off, .int .i64 n, .string data, .bool drop] ∧ (Lit.int .i64 cl).wf = true ∧ (Lit.int .i64 fd).wf = true := by
  obtain ⟨xs, m, _, _, hl, hxl, hg⟩ := DataW.trod_struct Tryz.underlying48 h
  rw [cells_ask] at hl
  match cs, hl, xs, hxl with
  | [c0, c1, c2, c3, c4, c5, c6, c7, c8, c9], _, [y0, y1, y2], _ =>
    have g0 : DataW.trod enc Tryz.prog W base spare held m 3 ((List.drop 0 [c0, c1, c2, c3, c4, c5, c6, c7, c8, c9]).take (Tryz.prog.cellsOf 3)) = some y0 := hg 0 _ rfl
    rw [cells_int] at g0
    have g1 : DataW.trod enc Tryz.prog W base spare held m 38 ((List.drop 1 [c0, c1, c2, c3, c4, c5, c6, c7, c8, c9]).take (Tryz.prog.cellsOf 38)) = some y1 := hg 1 _ rfl
    rw [cells_call] at g1
    have g2 : DataW.trod enc Tryz.prog W base spare held m 4 ((List.drop 9 [c0, c1, c2, c3, c4, c5, c6, c7, c8, c9]).take (Tryz.prog.cellsOf 4)) = some y2 := hg 2 _ rfl
    rw [cells_bool] at g2
    obtain ⟨k0, rfl, w0⟩ := one_int g0
    obtain ⟨kind, flags, fd, off, n, p, p2, data, hc, wf⟩ := open_call g1
    obtain ⟨b, rfl⟩ := one_bool g2
    cases hc
    exact ⟨k0, kind, flags, fd, off, n, p, p2, data, b, rfl, w0, wf⟩
end
end Go.Proofs.YtiepdioaidglmaaGreatDoor
