/- The law's arguments opened: rows of calls and of packets, and what their bulk gives. -/
import Derived.Test.YtiinponoeaihcaaGreatU26
import Derived.Test.YtiinponoeaihcaaGreatRows
import Derived.Deep.Slices
import Derived.Deep.Fields
import Derived.ChangeSame
import Derived.OpenShut
set_option linter.unusedVariables false
set_option linter.unusedSimpArgs false
set_option linter.unusedSectionVars false
namespace Go.Proofs.YtiinponoeaihcaaGreat
open Go.ChangeShapes Go.WideShapes Go.RowKit

theorem vc_int : Tryz.prog.cellsOf 3 = 1 := by kernel_rfl
theorem vc_string : Tryz.prog.cellsOf 9 = 1 := by kernel_rfl
theorem vc_errno : Tryz.prog.cellsOf 26 = 1 := by kernel_rfl
theorem vc_names : Tryz.prog.cellsOf 31 = 1 := by kernel_rfl
theorem vc_4 : Tryz.prog.cellsOf 36 = 4 := by kernel_rfl
theorem vc_8 : Tryz.prog.cellsOf 37 = 8 := by kernel_rfl
theorem vc_call : Tryz.prog.cellsOf 30 = 8 := by kernel_rfl
theorem vc_info : Tryz.prog.cellsOf 33 = 3 := by kernel_rfl
theorem vc_reply : Tryz.prog.cellsOf 35 = 7 := by kernel_rfl
theorem vc_inode : Tryz.prog.cellsOf 39 = 15 := by kernel_rfl
theorem vc_packet : Tryz.prog.cellsOf 41 = 43 := by kernel_rfl
theorem vc_ask : Tryz.prog.cellsOf 54 = 10 := by kernel_rfl
theorem bulk_append {H : Type} (l r : List (DataW H)) : Rows.uptoBulkAll (l ++ r) = Rows.uptoBulkAll l + Rows.uptoBulkAll r := by
  induction l with
  | nil => simp [Rows.uptoBulkAll]
  | cons x l ih => simp only [List.cons_append, Rows.uptoBulkAll, ih]; omega
theorem bulk_part {H : Type} {d : DataW H} {l : List (DataW H)} (h : d ∈ l) : Rows.uptoBulk d ≤ Rows.uptoBulkAll l := by
  induction l with
  | nil => cases h
  | cons x r ih =>
    simp only [Rows.uptoBulkAll]
    cases List.mem_cons.1 h with
    | inl e => subst e; omega
    | inr e => have := ih e; omega
theorem bulk_one {H : Type} (d : DataW H) : 1 ≤ Rows.uptoBulk d := by
  cases d with
  | lit l => cases l <;> simp [Rows.uptoBulk]
  | nil => simp [Rows.uptoBulk]
  | ptr d => simp [Rows.uptoBulk]
  | slice elems spare => simp [Rows.uptoBulk]
  | agg parts => simp [Rows.uptoBulk]
  | iface t d => simp [Rows.uptoBulk]
  | map entries => simp [Rows.uptoBulk]
  | held h => simp [Rows.uptoBulk]
theorem bulk_length {H : Type} (l : List (DataW H)) : l.length ≤ Rows.uptoBulkAll l := by
  induction l with
  | nil => simp [Rows.uptoBulkAll]
  | cons x r ih => have := bulk_one x; simp only [Rows.uptoBulkAll, List.length_cons]; omega
theorem bulk_slice {H : Type} (elems spare : List (DataW H)) : Rows.uptoBulkAll elems ≤ Rows.uptoBulk (.slice elems spare) := by
  simp only [Rows.uptoBulk]
  omega
theorem bulk_names {H : Type} (f : Nat → List UInt8) (D : Nat → DataW H) : ∀ n, (∀ i, i < n → (f i).length + 1 ≤ Rows.uptoBulk (D i)) → nmB ((List.range n).map f) ≤ Rows.uptoBulkAll ((List.range n).map D)
  | 0, _ => Nat.zero_le _
  | n + 1, h => by
    have ih := bulk_names f D n fun i hi => h i (by omega)
    have hn := h n (by omega)
    rw [List.range_succ, List.map_append, List.map_append, bulk_append]
    rw [show (List.map f [n]) = [f n] from rfl, nmB_snoc]
    simp only [List.map_cons, List.map_nil, Rows.uptoBulkAll]
    omega
section
variable {H : Type} {enc : TypeId × Value → H} {W : World} {base : Nat} {spare : Nat → Bool} {held : Bool} {fuel : Nat} {x : DataW H × List MemPlace}
theorem v1_int {v : Value} (h : DataW.trod enc Tryz.prog W base spare held fuel 3 [v] = some x) : ∃ n, v = .int .i64 n ∧ I64 n := by
  obtain ⟨n, hc, _, hw⟩ := DataW.trod_int Tryz.underlying3 h
  cases hc
  exact ⟨n, rfl, hw⟩
theorem v1_errno {v : Value} (h : DataW.trod enc Tryz.prog W base spare held fuel 26 [v] = some x) : ∃ n, v = .int .i64 n ∧ I64 n := by
  obtain ⟨n, hc, _, hw⟩ := DataW.trod_int Tryz.underlying26 h
  cases hc
  exact ⟨n, rfl, hw⟩
theorem v1_string {v : Value} (h : DataW.trod enc Tryz.prog W base spare held fuel 9 [v] = some x) : ∃ s : ByteArray, v = .string s ∧ s.size + 1 ≤ Rows.uptoBulk x.1 := by
  obtain ⟨s, hc, rfl, hs⟩ := DataW.trod_string Tryz.underlying9 h
  cases hc
  refine ⟨s, rfl, ?_⟩
  simp only [Rows.uptoBulk, Array.length_toList]
  exact Nat.le_refl _
theorem v1_names {v : Value} (h : DataW.trod enc Tryz.prog W base spare held fuel 31 [v] = some x) : ∃ (A : Option Addr) (c : Nat) (L : List (List UInt8)), v = .slice A L.length c ∧ nmB L ≤ Rows.uptoBulk x.1 ∧ ((∀ q ∈ x.2, q.block < W.heap.size) → StrR W A L) := by
  rcases Go.Deep.open_slice1 Tryz.underlying31 vc_string h with ⟨hcs, hx⟩ | ⟨a, len, cap, m, n, V, D, Pl, hcs, _, hl, hm, hmm, hx, hi⟩
  · cases hcs
    exact ⟨none, 0, [], rfl, Nat.zero_le _, fun _ => Or.inl rfl⟩
  · cases hcs
    have hlm : len ≤ m := by rw [hmm]; split <;> omega
    have pick : ∀ i, i < len → ∃ s : List UInt8, W.cell? (a.add i) = some (.string ⟨s.toArray⟩) ∧ s.length + 1 ≤ Rows.uptoBulk (D i) := fun i hil => by
      obtain ⟨h1, h2⟩ := hi i (by omega)
      obtain ⟨s, hs, hb⟩ := v1_string h2
      refine ⟨s.data.toList, ?_, ?_⟩
      · rw [h1, hs]
      · rw [Array.length_toList]
        exact hb
    obtain ⟨f, hf⟩ := Go.Deep.choose_lt (α := List UInt8) pick
    refine ⟨some a, cap, (List.range len).map f, by simp, ?_, fun hlt => ?_⟩
    · subst hx
      exact Nat.le_trans (bulk_names f D len fun i hi => (hf i hi).2) (bulk_slice _ _)
    · by_cases h0 : len = 0
      · left
        rw [h0]
        rfl
      · obtain ⟨b, o, spot⟩ := a
        have hspot : spot = none := by simpa [Addr.add] using World.cell?_spot (hf 0 (by omega)).1
        subst hspot
        subst hx
        refine Or.inr ⟨b, o, rfl, hlt (.cell b o) (List.mem_append_left _ (MemPlace.mem_row.2 ⟨0, by omega, by simp⟩)), fun j y hj => ?_⟩
        rw [List.getElem?_map] at hj
        cases hs : (List.range len)[j]? with
        | none => rw [hs] at hj; cases hj
        | some z =>
          rw [hs] at hj
          cases hj
          have hjl : j < len := by simpa using (List.getElem?_eq_some_iff.1 hs).1
          have hy : z = j := by
            rw [List.getElem?_range hjl] at hs
            exact (Option.some.inj hs).symm
          subst hy
          have := (hf z hjl).1
          rwa [Addr.add_lit] at this
theorem open_i64s {n : Nat} {t : TypeId} {cs : List Value} (ht : Tryz.prog.underlying t = some (.array n 3)) (hl : cs.length = n) (h : DataW.trod enc Tryz.prog W base spare held fuel t cs = some x) :
    ∃ L : List Int, L.length = n ∧ cs = intC L ∧ AllI L := by
  obtain ⟨xs, k, _, _, _, hxl, hg⟩ := DataW.trod_array ht h
  have pick : ∀ i, i < n → ∃ z : Int, cs[i]? = some (.int .i64 z) ∧ I64 z := fun i hi => by
    have h1 := hg i hi
    rw [Tryz.cells1, Nat.mul_one, List.getElem?_eq_getElem (by rw [hxl]; exact hi)] at h1
    obtain ⟨z, hc, _, hw⟩ := DataW.trod_int Tryz.underlying3 h1
    have hi2 : i < cs.length := by rw [hl]; exact hi
    rw [List.drop_eq_getElem_cons hi2, List.take_succ_cons, List.take_zero] at hc
    have hc2 : cs[i] = .int .i64 z := (List.cons.inj hc).1
    exact ⟨z, by rw [List.getElem?_eq_getElem hi2, hc2], hw⟩
  obtain ⟨f, hf⟩ := Go.Deep.choose_lt (α := Int) pick
  refine ⟨(List.range n).map f, by simp, ?_, fun z hz => ?_⟩
  · apply List.ext_getElem?
    intro i
    unfold intC
    by_cases hi : i < n
    · rw [(hf i hi).1, List.getElem?_map, List.getElem?_map, List.getElem?_range hi]
      rfl
    · rw [List.getElem?_eq_none (by omega), List.getElem?_eq_none (by simp; omega)]
  · obtain ⟨i, hi, rfl⟩ := List.mem_map.1 hz
    exact (hf i (List.mem_range.1 hi)).2
set_option maxRecDepth 100000 in
theorem open_call {cs : List Value} (h : DataW.trod enc Tryz.prog W base spare held fuel 30 cs = some x) : ∃ (ck fl fd off cn : Int) (p1 p2 cd : ByteArray), cs = [.int .i64 ck, .string p1, .string p2, .int .i64 fl, .int .i64 fd, .int .i64 off, .int .i64 cn, .string cd] ∧ (I64 ck ∧ I64 fl ∧ I64 fd ∧ I64 off ∧ I64 cn) ∧ (p1.size ≤ Rows.uptoBulk x.1 ∧ p2.size ≤ Rows.uptoBulk x.1 ∧ cd.size ≤ Rows.uptoBulk x.1) := by
  obtain ⟨xs, m, _, hxx, hl, hxl, hg⟩ := DataW.trod_struct Tryz.underlying30 h
  rw [vc_call] at hl
  rcases cs with _ | ⟨c0, cs⟩
  · exact absurd hl (by simp)
  rcases cs with _ | ⟨c1, cs⟩
  · exact absurd hl (by simp)
  rcases cs with _ | ⟨c2, cs⟩
  · exact absurd hl (by simp)
  rcases cs with _ | ⟨c3, cs⟩
  · exact absurd hl (by simp)
  rcases cs with _ | ⟨c4, cs⟩
  · exact absurd hl (by simp)
  rcases cs with _ | ⟨c5, cs⟩
  · exact absurd hl (by simp)
  rcases cs with _ | ⟨c6, cs⟩
  · exact absurd hl (by simp)
  rcases cs with _ | ⟨c7, cs⟩
  · exact absurd hl (by simp)
  rcases cs with _ | ⟨_, _⟩
  rotate_left
  · exact absurd hl (by simp)
  match xs, hxl, hxx with
  | [y0, y1, y2, y3, y4, y5, y6, y7], _, hxx =>
    have g0 : DataW.trod enc Tryz.prog W base spare held m 3 ((List.drop 0 [c0, c1, c2, c3, c4, c5, c6, c7]).take (Tryz.prog.cellsOf 3)) = some y0 := hg 0 _ rfl
    rw [vc_int] at g0
    have g1 : DataW.trod enc Tryz.prog W base spare held m 9 ((List.drop 1 [c0, c1, c2, c3, c4, c5, c6, c7]).take (Tryz.prog.cellsOf 9)) = some y1 := hg 1 _ rfl
    rw [vc_string] at g1
    have g2 : DataW.trod enc Tryz.prog W base spare held m 9 ((List.drop 2 [c0, c1, c2, c3, c4, c5, c6, c7]).take (Tryz.prog.cellsOf 9)) = some y2 := hg 2 _ rfl
    rw [vc_string] at g2
    have g3 : DataW.trod enc Tryz.prog W base spare held m 3 ((List.drop 3 [c0, c1, c2, c3, c4, c5, c6, c7]).take (Tryz.prog.cellsOf 3)) = some y3 := hg 3 _ rfl
    rw [vc_int] at g3
    have g4 : DataW.trod enc Tryz.prog W base spare held m 3 ((List.drop 4 [c0, c1, c2, c3, c4, c5, c6, c7]).take (Tryz.prog.cellsOf 3)) = some y4 := hg 4 _ rfl
    rw [vc_int] at g4
    have g5 : DataW.trod enc Tryz.prog W base spare held m 3 ((List.drop 5 [c0, c1, c2, c3, c4, c5, c6, c7]).take (Tryz.prog.cellsOf 3)) = some y5 := hg 5 _ rfl
    rw [vc_int] at g5
    have g6 : DataW.trod enc Tryz.prog W base spare held m 3 ((List.drop 6 [c0, c1, c2, c3, c4, c5, c6, c7]).take (Tryz.prog.cellsOf 3)) = some y6 := hg 6 _ rfl
    rw [vc_int] at g6
    have g7 : DataW.trod enc Tryz.prog W base spare held m 9 ((List.drop 7 [c0, c1, c2, c3, c4, c5, c6, c7]).take (Tryz.prog.cellsOf 9)) = some y7 := hg 7 _ rfl
    rw [vc_string] at g7
    have hbk : Rows.uptoBulk x.1 = Rows.uptoBulk y0.1 + Rows.uptoBulk y1.1 + Rows.uptoBulk y2.1 + Rows.uptoBulk y3.1 + Rows.uptoBulk y4.1 + Rows.uptoBulk y5.1 + Rows.uptoBulk y6.1 + Rows.uptoBulk y7.1 + 1 := by
      subst hxx
      simp only [List.map_cons, List.map_nil, Rows.uptoBulk, Rows.uptoBulkAll]
      omega
    obtain ⟨ck, rfl, i_ck⟩ := v1_int g0
    obtain ⟨p1, rfl, s_p1⟩ := v1_string g1
    obtain ⟨p2, rfl, s_p2⟩ := v1_string g2
    obtain ⟨fl, rfl, i_fl⟩ := v1_int g3
    obtain ⟨fd, rfl, i_fd⟩ := v1_int g4
    obtain ⟨off, rfl, i_off⟩ := v1_int g5
    obtain ⟨cn, rfl, i_cn⟩ := v1_int g6
    obtain ⟨cd, rfl, s_cd⟩ := v1_string g7
    exact ⟨ck, fl, fd, off, cn, p1, p2, cd, rfl, ⟨i_ck, i_fl, i_fd, i_off, i_cn⟩, ⟨by rw [hbk]; omega, by rw [hbk]; omega, by rw [hbk]; omega⟩⟩
set_option maxRecDepth 100000 in
theorem open_info {cs : List Value} (h : DataW.trod enc Tryz.prog W base spare held fuel 33 cs = some x) : ∃ (ik il isz : Int), cs = [.int .i64 ik, .int .i64 il, .int .i64 isz] ∧ (I64 ik ∧ I64 il ∧ I64 isz) := by
  obtain ⟨xs, m, _, hxx, hl, hxl, hg⟩ := DataW.trod_struct Tryz.underlying33 h
  rw [vc_info] at hl
  rcases cs with _ | ⟨c0, cs⟩
  · exact absurd hl (by simp)
  rcases cs with _ | ⟨c1, cs⟩
  · exact absurd hl (by simp)
  rcases cs with _ | ⟨c2, cs⟩
  · exact absurd hl (by simp)
  rcases cs with _ | ⟨_, _⟩
  rotate_left
  · exact absurd hl (by simp)
  match xs, hxl, hxx with
  | [y0, y1, y2], _, hxx =>
    have g0 : DataW.trod enc Tryz.prog W base spare held m 3 ((List.drop 0 [c0, c1, c2]).take (Tryz.prog.cellsOf 3)) = some y0 := hg 0 _ rfl
    rw [vc_int] at g0
    have g1 : DataW.trod enc Tryz.prog W base spare held m 3 ((List.drop 1 [c0, c1, c2]).take (Tryz.prog.cellsOf 3)) = some y1 := hg 1 _ rfl
    rw [vc_int] at g1
    have g2 : DataW.trod enc Tryz.prog W base spare held m 3 ((List.drop 2 [c0, c1, c2]).take (Tryz.prog.cellsOf 3)) = some y2 := hg 2 _ rfl
    rw [vc_int] at g2
    have hbk : Rows.uptoBulk x.1 = Rows.uptoBulk y0.1 + Rows.uptoBulk y1.1 + Rows.uptoBulk y2.1 + 1 := by
      subst hxx
      simp only [List.map_cons, List.map_nil, Rows.uptoBulk, Rows.uptoBulkAll]
      omega
    obtain ⟨ik, rfl, i_ik⟩ := v1_int g0
    obtain ⟨il, rfl, i_il⟩ := v1_int g1
    obtain ⟨isz, rfl, i_isz⟩ := v1_int g2
    exact ⟨ik, il, isz, rfl, ⟨i_ik, i_il, i_isz⟩⟩
set_option maxRecDepth 100000 in
theorem open_inode {cs : List Value} (h : DataW.trod enc Tryz.prog W base spare held fuel 39 cs = some x) : ∃ (nk nl ns b0 b1 b2 b3 o0 o1 o2 o3 o4 o5 o6 o7 : Int), cs = [.int .i64 nk, .int .i64 nl, .int .i64 ns, .int .i64 b0, .int .i64 b1, .int .i64 b2, .int .i64 b3, .int .i64 o0, .int .i64 o1, .int .i64 o2, .int .i64 o3, .int .i64 o4, .int .i64 o5, .int .i64 o6, .int .i64 o7] ∧ (I64 nk ∧ I64 nl ∧ I64 ns ∧ I64 b0 ∧ I64 b1 ∧ I64 b2 ∧ I64 b3 ∧ I64 o0 ∧ I64 o1 ∧ I64 o2 ∧ I64 o3 ∧ I64 o4 ∧ I64 o5 ∧ I64 o6 ∧ I64 o7) := by
  obtain ⟨xs, m, _, hxx, hl, hxl, hg⟩ := DataW.trod_struct Tryz.underlying39 h
  rw [vc_inode] at hl
  rcases cs with _ | ⟨c0, cs⟩
  · exact absurd hl (by simp)
  rcases cs with _ | ⟨c1, cs⟩
  · exact absurd hl (by simp)
  rcases cs with _ | ⟨c2, cs⟩
  · exact absurd hl (by simp)
  rcases cs with _ | ⟨c3, cs⟩
  · exact absurd hl (by simp)
  rcases cs with _ | ⟨c4, cs⟩
  · exact absurd hl (by simp)
  rcases cs with _ | ⟨c5, cs⟩
  · exact absurd hl (by simp)
  rcases cs with _ | ⟨c6, cs⟩
  · exact absurd hl (by simp)
  rcases cs with _ | ⟨c7, cs⟩
  · exact absurd hl (by simp)
  rcases cs with _ | ⟨c8, cs⟩
  · exact absurd hl (by simp)
  rcases cs with _ | ⟨c9, cs⟩
  · exact absurd hl (by simp)
  rcases cs with _ | ⟨c10, cs⟩
  · exact absurd hl (by simp)
  rcases cs with _ | ⟨c11, cs⟩
  · exact absurd hl (by simp)
  rcases cs with _ | ⟨c12, cs⟩
  · exact absurd hl (by simp)
  rcases cs with _ | ⟨c13, cs⟩
  · exact absurd hl (by simp)
  rcases cs with _ | ⟨c14, cs⟩
  · exact absurd hl (by simp)
  rcases cs with _ | ⟨_, _⟩
  rotate_left
  · exact absurd hl (by simp)
  match xs, hxl, hxx with
  | [y0, y1, y2, y3, y4], _, hxx =>
    have g0 : DataW.trod enc Tryz.prog W base spare held m 3 ((List.drop 0 [c0, c1, c2, c3, c4, c5, c6, c7, c8, c9, c10, c11, c12, c13, c14]).take (Tryz.prog.cellsOf 3)) = some y0 := hg 0 _ rfl
    rw [vc_int] at g0
    have g1 : DataW.trod enc Tryz.prog W base spare held m 3 ((List.drop 1 [c0, c1, c2, c3, c4, c5, c6, c7, c8, c9, c10, c11, c12, c13, c14]).take (Tryz.prog.cellsOf 3)) = some y1 := hg 1 _ rfl
    rw [vc_int] at g1
    have g2 : DataW.trod enc Tryz.prog W base spare held m 3 ((List.drop 2 [c0, c1, c2, c3, c4, c5, c6, c7, c8, c9, c10, c11, c12, c13, c14]).take (Tryz.prog.cellsOf 3)) = some y2 := hg 2 _ rfl
    rw [vc_int] at g2
    have g3 : DataW.trod enc Tryz.prog W base spare held m 36 ((List.drop 3 [c0, c1, c2, c3, c4, c5, c6, c7, c8, c9, c10, c11, c12, c13, c14]).take (Tryz.prog.cellsOf 36)) = some y3 := hg 3 _ rfl
    rw [vc_4] at g3
    have g4 : DataW.trod enc Tryz.prog W base spare held m 37 ((List.drop 7 [c0, c1, c2, c3, c4, c5, c6, c7, c8, c9, c10, c11, c12, c13, c14]).take (Tryz.prog.cellsOf 37)) = some y4 := hg 4 _ rfl
    rw [vc_8] at g4
    have hbk : Rows.uptoBulk x.1 = Rows.uptoBulk y0.1 + Rows.uptoBulk y1.1 + Rows.uptoBulk y2.1 + Rows.uptoBulk y3.1 + Rows.uptoBulk y4.1 + 1 := by
      subst hxx
      simp only [List.map_cons, List.map_nil, Rows.uptoBulk, Rows.uptoBulkAll]
      omega
    obtain ⟨nk, rfl, i_nk⟩ := v1_int g0
    obtain ⟨nl, rfl, i_nl⟩ := v1_int g1
    obtain ⟨ns, rfl, i_ns⟩ := v1_int g2
    obtain ⟨B3, hB3, hBc3, hBI3⟩ := open_i64s (cs := [c3, c4, c5, c6]) Tryz.underlying36 rfl g3
    match B3, hB3, hBc3, hBI3 with
    | [b0, b1, b2, b3], _, hBc3, hBI3 =>
    have e3 : [c3, c4, c5, c6] = [.int .i64 b0, .int .i64 b1, .int .i64 b2, .int .i64 b3] := hBc3
    cases e3
    have i_b0 : I64 b0 := hBI3 b0 (by simp)
    have i_b1 : I64 b1 := hBI3 b1 (by simp)
    have i_b2 : I64 b2 := hBI3 b2 (by simp)
    have i_b3 : I64 b3 := hBI3 b3 (by simp)
    obtain ⟨B4, hB4, hBc4, hBI4⟩ := open_i64s (cs := [c7, c8, c9, c10, c11, c12, c13, c14]) Tryz.underlying37 rfl g4
    match B4, hB4, hBc4, hBI4 with
    | [o0, o1, o2, o3, o4, o5, o6, o7], _, hBc4, hBI4 =>
    have e4 : [c7, c8, c9, c10, c11, c12, c13, c14] = [.int .i64 o0, .int .i64 o1, .int .i64 o2, .int .i64 o3, .int .i64 o4, .int .i64 o5, .int .i64 o6, .int .i64 o7] := hBc4
    cases e4
    have i_o0 : I64 o0 := hBI4 o0 (by simp)
    have i_o1 : I64 o1 := hBI4 o1 (by simp)
    have i_o2 : I64 o2 := hBI4 o2 (by simp)
    have i_o3 : I64 o3 := hBI4 o3 (by simp)
    have i_o4 : I64 o4 := hBI4 o4 (by simp)
    have i_o5 : I64 o5 := hBI4 o5 (by simp)
    have i_o6 : I64 o6 := hBI4 o6 (by simp)
    have i_o7 : I64 o7 := hBI4 o7 (by simp)
    exact ⟨nk, nl, ns, b0, b1, b2, b3, o0, o1, o2, o3, o4, o5, o6, o7, rfl, ⟨i_nk, i_nl, i_ns, i_b0, i_b1, i_b2, i_b3, i_o0, i_o1, i_o2, i_o3, i_o4, i_o5, i_o6, i_o7⟩⟩
set_option maxRecDepth 100000 in
theorem open_reply {cs : List Value} (h : DataW.trod enc Tryz.prog W base spare held fuel 35 cs = some x) : ∃ (re rfd ik il isz : Int) (rd : ByteArray) (A : Option Addr) (c : Nat) (L : List (List UInt8)), cs = [.int .i64 re, .int .i64 rfd, .string rd, .slice A L.length c, .int .i64 ik, .int .i64 il, .int .i64 isz] ∧ (I64 re ∧ I64 rfd ∧ I64 ik ∧ I64 il ∧ I64 isz) ∧ (rd.size ≤ Rows.uptoBulk x.1) ∧ nmB L ≤ Rows.uptoBulk x.1 ∧ ((∀ q ∈ x.2, q.block < W.heap.size) → StrR W A L) := by
  obtain ⟨xs, m, _, hxx, hl, hxl, hg⟩ := DataW.trod_struct Tryz.underlying35 h
  rw [vc_reply] at hl
  rcases cs with _ | ⟨c0, cs⟩
  · exact absurd hl (by simp)
  rcases cs with _ | ⟨c1, cs⟩
  · exact absurd hl (by simp)
  rcases cs with _ | ⟨c2, cs⟩
  · exact absurd hl (by simp)
  rcases cs with _ | ⟨c3, cs⟩
  · exact absurd hl (by simp)
  rcases cs with _ | ⟨c4, cs⟩
  · exact absurd hl (by simp)
  rcases cs with _ | ⟨c5, cs⟩
  · exact absurd hl (by simp)
  rcases cs with _ | ⟨c6, cs⟩
  · exact absurd hl (by simp)
  rcases cs with _ | ⟨_, _⟩
  rotate_left
  · exact absurd hl (by simp)
  match xs, hxl, hxx with
  | [y0, y1, y2, y3, y4], _, hxx =>
    have g0 : DataW.trod enc Tryz.prog W base spare held m 26 ((List.drop 0 [c0, c1, c2, c3, c4, c5, c6]).take (Tryz.prog.cellsOf 26)) = some y0 := hg 0 _ rfl
    rw [vc_errno] at g0
    have g1 : DataW.trod enc Tryz.prog W base spare held m 3 ((List.drop 1 [c0, c1, c2, c3, c4, c5, c6]).take (Tryz.prog.cellsOf 3)) = some y1 := hg 1 _ rfl
    rw [vc_int] at g1
    have g2 : DataW.trod enc Tryz.prog W base spare held m 9 ((List.drop 2 [c0, c1, c2, c3, c4, c5, c6]).take (Tryz.prog.cellsOf 9)) = some y2 := hg 2 _ rfl
    rw [vc_string] at g2
    have g3 : DataW.trod enc Tryz.prog W base spare held m 31 ((List.drop 3 [c0, c1, c2, c3, c4, c5, c6]).take (Tryz.prog.cellsOf 31)) = some y3 := hg 3 _ rfl
    rw [vc_names] at g3
    have g4 : DataW.trod enc Tryz.prog W base spare held m 33 ((List.drop 4 [c0, c1, c2, c3, c4, c5, c6]).take (Tryz.prog.cellsOf 33)) = some y4 := hg 4 _ rfl
    rw [vc_info] at g4
    have hbk : Rows.uptoBulk x.1 = Rows.uptoBulk y0.1 + Rows.uptoBulk y1.1 + Rows.uptoBulk y2.1 + Rows.uptoBulk y3.1 + Rows.uptoBulk y4.1 + 1 := by
      subst hxx
      simp only [List.map_cons, List.map_nil, Rows.uptoBulk, Rows.uptoBulkAll]
      omega
    obtain ⟨re, rfl, i_re⟩ := v1_errno g0
    obtain ⟨rfd, rfl, i_rfd⟩ := v1_int g1
    obtain ⟨rd, rfl, s_rd⟩ := v1_string g2
    obtain ⟨A, c, L, rfl, hnm, hst⟩ := v1_names g3
    obtain ⟨ik, il, isz, e4, ⟨i_ik, i_il, i_isz⟩⟩ := open_info g4
    cases e4
    refine ⟨re, rfd, ik, il, isz, rd, A, c, L, rfl, ⟨i_re, i_rfd, i_ik, i_il, i_isz⟩, by rw [hbk]; omega, by rw [hbk]; omega, fun hz => hst fun q hq => hz q ?_⟩
    subst hxx
    simp [hq]
set_option maxRecDepth 100000 in
theorem open_packet0 {cs : List Value} (h : DataW.trod enc Tryz.prog W base spare held fuel 41 cs = some x) : ∃ (kd cl ep sq op at_ n old new ck fl fd off cn ino er re rfd ik il isz wr nk nl ns b0 b1 b2 b3 o0 o1 o2 o3 o4 o5 o6 o7 : Int) (d p1 p2 cd rd : ByteArray) (A : Option Addr) (c : Nat) (L : List (List UInt8)), cs = [.int .i64 kd, .int .i64 cl, .int .i64 ep, .int .i64 sq, .int .i64 op, .int .i64 at_, .int .i64 n, .string d, .int .i64 old, .int .i64 new, .int .i64 ck, .string p1, .string p2, .int .i64 fl, .int .i64 fd, .int .i64 off, .int .i64 cn, .string cd, .int .i64 ino, .int .i64 er, .int .i64 re, .int .i64 rfd, .string rd, .slice A L.length c, .int .i64 ik, .int .i64 il, .int .i64 isz, .int .i64 wr, .int .i64 nk, .int .i64 nl, .int .i64 ns, .int .i64 b0, .int .i64 b1, .int .i64 b2, .int .i64 b3, .int .i64 o0, .int .i64 o1, .int .i64 o2, .int .i64 o3, .int .i64 o4, .int .i64 o5, .int .i64 o6, .int .i64 o7] ∧ (I64 kd ∧ I64 cl ∧ I64 ep ∧ I64 sq ∧ I64 op ∧ I64 at_ ∧ I64 n ∧ I64 old ∧ I64 new ∧ I64 ck ∧ I64 fl ∧ I64 fd ∧ I64 off ∧ I64 cn ∧ I64 ino ∧ I64 er ∧ I64 re ∧ I64 rfd ∧ I64 ik ∧ I64 il ∧ I64 isz ∧ I64 wr ∧ I64 nk ∧ I64 nl ∧ I64 ns ∧ I64 b0 ∧ I64 b1 ∧ I64 b2 ∧ I64 b3 ∧ I64 o0 ∧ I64 o1 ∧ I64 o2 ∧ I64 o3 ∧ I64 o4 ∧ I64 o5 ∧ I64 o6 ∧ I64 o7) ∧ (d.size ≤ Rows.uptoBulk x.1 ∧ p1.size ≤ Rows.uptoBulk x.1 ∧ p2.size ≤ Rows.uptoBulk x.1 ∧ cd.size ≤ Rows.uptoBulk x.1 ∧ rd.size ≤ Rows.uptoBulk x.1) ∧ nmB L ≤ Rows.uptoBulk x.1 ∧ ((∀ q ∈ x.2, q.block < W.heap.size) → StrR W A L) := by
  obtain ⟨xs, m, _, hxx, hl, hxl, hg⟩ := DataW.trod_struct Tryz.underlying41 h
  rw [vc_packet] at hl
  rcases cs with _ | ⟨c0, cs⟩
  · exact absurd hl (by simp)
  rcases cs with _ | ⟨c1, cs⟩
  · exact absurd hl (by simp)
  rcases cs with _ | ⟨c2, cs⟩
  · exact absurd hl (by simp)
  rcases cs with _ | ⟨c3, cs⟩
  · exact absurd hl (by simp)
  rcases cs with _ | ⟨c4, cs⟩
  · exact absurd hl (by simp)
  rcases cs with _ | ⟨c5, cs⟩
  · exact absurd hl (by simp)
  rcases cs with _ | ⟨c6, cs⟩
  · exact absurd hl (by simp)
  rcases cs with _ | ⟨c7, cs⟩
  · exact absurd hl (by simp)
  rcases cs with _ | ⟨c8, cs⟩
  · exact absurd hl (by simp)
  rcases cs with _ | ⟨c9, cs⟩
  · exact absurd hl (by simp)
  rcases cs with _ | ⟨c10, cs⟩
  · exact absurd hl (by simp)
  rcases cs with _ | ⟨c11, cs⟩
  · exact absurd hl (by simp)
  rcases cs with _ | ⟨c12, cs⟩
  · exact absurd hl (by simp)
  rcases cs with _ | ⟨c13, cs⟩
  · exact absurd hl (by simp)
  rcases cs with _ | ⟨c14, cs⟩
  · exact absurd hl (by simp)
  rcases cs with _ | ⟨c15, cs⟩
  · exact absurd hl (by simp)
  rcases cs with _ | ⟨c16, cs⟩
  · exact absurd hl (by simp)
  rcases cs with _ | ⟨c17, cs⟩
  · exact absurd hl (by simp)
  rcases cs with _ | ⟨c18, cs⟩
  · exact absurd hl (by simp)
  rcases cs with _ | ⟨c19, cs⟩
  · exact absurd hl (by simp)
  rcases cs with _ | ⟨c20, cs⟩
  · exact absurd hl (by simp)
  rcases cs with _ | ⟨c21, cs⟩
  · exact absurd hl (by simp)
  rcases cs with _ | ⟨c22, cs⟩
  · exact absurd hl (by simp)
  rcases cs with _ | ⟨c23, cs⟩
  · exact absurd hl (by simp)
  rcases cs with _ | ⟨c24, cs⟩
  · exact absurd hl (by simp)
  rcases cs with _ | ⟨c25, cs⟩
  · exact absurd hl (by simp)
  rcases cs with _ | ⟨c26, cs⟩
  · exact absurd hl (by simp)
  rcases cs with _ | ⟨c27, cs⟩
  · exact absurd hl (by simp)
  rcases cs with _ | ⟨c28, cs⟩
  · exact absurd hl (by simp)
  rcases cs with _ | ⟨c29, cs⟩
  · exact absurd hl (by simp)
  rcases cs with _ | ⟨c30, cs⟩
  · exact absurd hl (by simp)
  rcases cs with _ | ⟨c31, cs⟩
  · exact absurd hl (by simp)
  rcases cs with _ | ⟨c32, cs⟩
  · exact absurd hl (by simp)
  rcases cs with _ | ⟨c33, cs⟩
  · exact absurd hl (by simp)
  rcases cs with _ | ⟨c34, cs⟩
  · exact absurd hl (by simp)
  rcases cs with _ | ⟨c35, cs⟩
  · exact absurd hl (by simp)
  rcases cs with _ | ⟨c36, cs⟩
  · exact absurd hl (by simp)
  rcases cs with _ | ⟨c37, cs⟩
  · exact absurd hl (by simp)
  rcases cs with _ | ⟨c38, cs⟩
  · exact absurd hl (by simp)
  rcases cs with _ | ⟨c39, cs⟩
  · exact absurd hl (by simp)
  rcases cs with _ | ⟨c40, cs⟩
  · exact absurd hl (by simp)
  rcases cs with _ | ⟨c41, cs⟩
  · exact absurd hl (by simp)
  rcases cs with _ | ⟨c42, cs⟩
  · exact absurd hl (by simp)
  rcases cs with _ | ⟨_, _⟩
  rotate_left
  · exact absurd hl (by simp)
  match xs, hxl, hxx with
  | [y0, y1, y2, y3, y4, y5, y6, y7, y8, y9, y10, y11, y12, y13, y14, y15], _, hxx =>
    have g0 : DataW.trod enc Tryz.prog W base spare held m 3 ((List.drop 0 [c0, c1, c2, c3, c4, c5, c6, c7, c8, c9, c10, c11, c12, c13, c14, c15, c16, c17, c18, c19, c20, c21, c22, c23, c24, c25, c26, c27, c28, c29, c30, c31, c32, c33, c34, c35, c36, c37, c38, c39, c40, c41, c42]).take (Tryz.prog.cellsOf 3)) = some y0 := hg 0 _ rfl
    rw [vc_int] at g0
    have g1 : DataW.trod enc Tryz.prog W base spare held m 3 ((List.drop 1 [c0, c1, c2, c3, c4, c5, c6, c7, c8, c9, c10, c11, c12, c13, c14, c15, c16, c17, c18, c19, c20, c21, c22, c23, c24, c25, c26, c27, c28, c29, c30, c31, c32, c33, c34, c35, c36, c37, c38, c39, c40, c41, c42]).take (Tryz.prog.cellsOf 3)) = some y1 := hg 1 _ rfl
    rw [vc_int] at g1
    have g2 : DataW.trod enc Tryz.prog W base spare held m 3 ((List.drop 2 [c0, c1, c2, c3, c4, c5, c6, c7, c8, c9, c10, c11, c12, c13, c14, c15, c16, c17, c18, c19, c20, c21, c22, c23, c24, c25, c26, c27, c28, c29, c30, c31, c32, c33, c34, c35, c36, c37, c38, c39, c40, c41, c42]).take (Tryz.prog.cellsOf 3)) = some y2 := hg 2 _ rfl
    rw [vc_int] at g2
    have g3 : DataW.trod enc Tryz.prog W base spare held m 3 ((List.drop 3 [c0, c1, c2, c3, c4, c5, c6, c7, c8, c9, c10, c11, c12, c13, c14, c15, c16, c17, c18, c19, c20, c21, c22, c23, c24, c25, c26, c27, c28, c29, c30, c31, c32, c33, c34, c35, c36, c37, c38, c39, c40, c41, c42]).take (Tryz.prog.cellsOf 3)) = some y3 := hg 3 _ rfl
    rw [vc_int] at g3
    have g4 : DataW.trod enc Tryz.prog W base spare held m 3 ((List.drop 4 [c0, c1, c2, c3, c4, c5, c6, c7, c8, c9, c10, c11, c12, c13, c14, c15, c16, c17, c18, c19, c20, c21, c22, c23, c24, c25, c26, c27, c28, c29, c30, c31, c32, c33, c34, c35, c36, c37, c38, c39, c40, c41, c42]).take (Tryz.prog.cellsOf 3)) = some y4 := hg 4 _ rfl
    rw [vc_int] at g4
    have g5 : DataW.trod enc Tryz.prog W base spare held m 3 ((List.drop 5 [c0, c1, c2, c3, c4, c5, c6, c7, c8, c9, c10, c11, c12, c13, c14, c15, c16, c17, c18, c19, c20, c21, c22, c23, c24, c25, c26, c27, c28, c29, c30, c31, c32, c33, c34, c35, c36, c37, c38, c39, c40, c41, c42]).take (Tryz.prog.cellsOf 3)) = some y5 := hg 5 _ rfl
    rw [vc_int] at g5
    have g6 : DataW.trod enc Tryz.prog W base spare held m 3 ((List.drop 6 [c0, c1, c2, c3, c4, c5, c6, c7, c8, c9, c10, c11, c12, c13, c14, c15, c16, c17, c18, c19, c20, c21, c22, c23, c24, c25, c26, c27, c28, c29, c30, c31, c32, c33, c34, c35, c36, c37, c38, c39, c40, c41, c42]).take (Tryz.prog.cellsOf 3)) = some y6 := hg 6 _ rfl
    rw [vc_int] at g6
    have g7 : DataW.trod enc Tryz.prog W base spare held m 9 ((List.drop 7 [c0, c1, c2, c3, c4, c5, c6, c7, c8, c9, c10, c11, c12, c13, c14, c15, c16, c17, c18, c19, c20, c21, c22, c23, c24, c25, c26, c27, c28, c29, c30, c31, c32, c33, c34, c35, c36, c37, c38, c39, c40, c41, c42]).take (Tryz.prog.cellsOf 9)) = some y7 := hg 7 _ rfl
    rw [vc_string] at g7
    have g8 : DataW.trod enc Tryz.prog W base spare held m 3 ((List.drop 8 [c0, c1, c2, c3, c4, c5, c6, c7, c8, c9, c10, c11, c12, c13, c14, c15, c16, c17, c18, c19, c20, c21, c22, c23, c24, c25, c26, c27, c28, c29, c30, c31, c32, c33, c34, c35, c36, c37, c38, c39, c40, c41, c42]).take (Tryz.prog.cellsOf 3)) = some y8 := hg 8 _ rfl
    rw [vc_int] at g8
    have g9 : DataW.trod enc Tryz.prog W base spare held m 3 ((List.drop 9 [c0, c1, c2, c3, c4, c5, c6, c7, c8, c9, c10, c11, c12, c13, c14, c15, c16, c17, c18, c19, c20, c21, c22, c23, c24, c25, c26, c27, c28, c29, c30, c31, c32, c33, c34, c35, c36, c37, c38, c39, c40, c41, c42]).take (Tryz.prog.cellsOf 3)) = some y9 := hg 9 _ rfl
    rw [vc_int] at g9
    have g10 : DataW.trod enc Tryz.prog W base spare held m 30 ((List.drop 10 [c0, c1, c2, c3, c4, c5, c6, c7, c8, c9, c10, c11, c12, c13, c14, c15, c16, c17, c18, c19, c20, c21, c22, c23, c24, c25, c26, c27, c28, c29, c30, c31, c32, c33, c34, c35, c36, c37, c38, c39, c40, c41, c42]).take (Tryz.prog.cellsOf 30)) = some y10 := hg 10 _ rfl
    rw [vc_call] at g10
    have g11 : DataW.trod enc Tryz.prog W base spare held m 3 ((List.drop 18 [c0, c1, c2, c3, c4, c5, c6, c7, c8, c9, c10, c11, c12, c13, c14, c15, c16, c17, c18, c19, c20, c21, c22, c23, c24, c25, c26, c27, c28, c29, c30, c31, c32, c33, c34, c35, c36, c37, c38, c39, c40, c41, c42]).take (Tryz.prog.cellsOf 3)) = some y11 := hg 11 _ rfl
    rw [vc_int] at g11
    have g12 : DataW.trod enc Tryz.prog W base spare held m 26 ((List.drop 19 [c0, c1, c2, c3, c4, c5, c6, c7, c8, c9, c10, c11, c12, c13, c14, c15, c16, c17, c18, c19, c20, c21, c22, c23, c24, c25, c26, c27, c28, c29, c30, c31, c32, c33, c34, c35, c36, c37, c38, c39, c40, c41, c42]).take (Tryz.prog.cellsOf 26)) = some y12 := hg 12 _ rfl
    rw [vc_errno] at g12
    have g13 : DataW.trod enc Tryz.prog W base spare held m 35 ((List.drop 20 [c0, c1, c2, c3, c4, c5, c6, c7, c8, c9, c10, c11, c12, c13, c14, c15, c16, c17, c18, c19, c20, c21, c22, c23, c24, c25, c26, c27, c28, c29, c30, c31, c32, c33, c34, c35, c36, c37, c38, c39, c40, c41, c42]).take (Tryz.prog.cellsOf 35)) = some y13 := hg 13 _ rfl
    rw [vc_reply] at g13
    have g14 : DataW.trod enc Tryz.prog W base spare held m 3 ((List.drop 27 [c0, c1, c2, c3, c4, c5, c6, c7, c8, c9, c10, c11, c12, c13, c14, c15, c16, c17, c18, c19, c20, c21, c22, c23, c24, c25, c26, c27, c28, c29, c30, c31, c32, c33, c34, c35, c36, c37, c38, c39, c40, c41, c42]).take (Tryz.prog.cellsOf 3)) = some y14 := hg 14 _ rfl
    rw [vc_int] at g14
    have g15 : DataW.trod enc Tryz.prog W base spare held m 39 ((List.drop 28 [c0, c1, c2, c3, c4, c5, c6, c7, c8, c9, c10, c11, c12, c13, c14, c15, c16, c17, c18, c19, c20, c21, c22, c23, c24, c25, c26, c27, c28, c29, c30, c31, c32, c33, c34, c35, c36, c37, c38, c39, c40, c41, c42]).take (Tryz.prog.cellsOf 39)) = some y15 := hg 15 _ rfl
    rw [vc_inode] at g15
    have hbk : Rows.uptoBulk x.1 = Rows.uptoBulk y0.1 + Rows.uptoBulk y1.1 + Rows.uptoBulk y2.1 + Rows.uptoBulk y3.1 + Rows.uptoBulk y4.1 + Rows.uptoBulk y5.1 + Rows.uptoBulk y6.1 + Rows.uptoBulk y7.1 + Rows.uptoBulk y8.1 + Rows.uptoBulk y9.1 + Rows.uptoBulk y10.1 + Rows.uptoBulk y11.1 + Rows.uptoBulk y12.1 + Rows.uptoBulk y13.1 + Rows.uptoBulk y14.1 + Rows.uptoBulk y15.1 + 1 := by
      subst hxx
      simp only [List.map_cons, List.map_nil, Rows.uptoBulk, Rows.uptoBulkAll]
      omega
    obtain ⟨kd, rfl, i_kd⟩ := v1_int g0
    obtain ⟨cl, rfl, i_cl⟩ := v1_int g1
    obtain ⟨ep, rfl, i_ep⟩ := v1_int g2
    obtain ⟨sq, rfl, i_sq⟩ := v1_int g3
    obtain ⟨op, rfl, i_op⟩ := v1_int g4
    obtain ⟨at_, rfl, i_at_⟩ := v1_int g5
    obtain ⟨n, rfl, i_n⟩ := v1_int g6
    obtain ⟨d, rfl, s_d⟩ := v1_string g7
    obtain ⟨old, rfl, i_old⟩ := v1_int g8
    obtain ⟨new, rfl, i_new⟩ := v1_int g9
    obtain ⟨ck, fl, fd, off, cn, p1, p2, cd, e10, ⟨i_ck, i_fl, i_fd, i_off, i_cn⟩, ⟨s_p1, s_p2, s_cd⟩⟩ := open_call g10
    cases e10
    obtain ⟨ino, rfl, i_ino⟩ := v1_int g11
    obtain ⟨er, rfl, i_er⟩ := v1_errno g12
    obtain ⟨re, rfd, ik, il, isz, rd, A, c, L, e13, ⟨i_re, i_rfd, i_ik, i_il, i_isz⟩, s_rd, hnm, hst⟩ := open_reply g13
    cases e13
    obtain ⟨wr, rfl, i_wr⟩ := v1_int g14
    obtain ⟨nk, nl, ns, b0, b1, b2, b3, o0, o1, o2, o3, o4, o5, o6, o7, e15, ⟨i_nk, i_nl, i_ns, i_b0, i_b1, i_b2, i_b3, i_o0, i_o1, i_o2, i_o3, i_o4, i_o5, i_o6, i_o7⟩⟩ := open_inode g15
    cases e15
    refine ⟨kd, cl, ep, sq, op, at_, n, old, new, ck, fl, fd, off, cn, ino, er, re, rfd, ik, il, isz, wr, nk, nl, ns, b0, b1, b2, b3, o0, o1, o2, o3, o4, o5, o6, o7, d, p1, p2, cd, rd, A, c, L, rfl, ⟨i_kd, i_cl, i_ep, i_sq, i_op, i_at_, i_n, i_old, i_new, i_ck, i_fl, i_fd, i_off, i_cn, i_ino, i_er, i_re, i_rfd, i_ik, i_il, i_isz, i_wr, i_nk, i_nl, i_ns, i_b0, i_b1, i_b2, i_b3, i_o0, i_o1, i_o2, i_o3, i_o4, i_o5, i_o6, i_o7⟩, ⟨by rw [hbk]; omega, by rw [hbk]; omega, by rw [hbk]; omega, by rw [hbk]; omega, by rw [hbk]; omega⟩, by rw [hbk]; omega, fun hz => hst fun q hq => hz q ?_⟩
    subst hxx
    simp [hq]
set_option maxRecDepth 100000 in
theorem open_ask0 {cs : List Value} (h : DataW.trod enc Tryz.prog W base spare held fuel 54 cs = some x) : ∃ (acl ati ck fl fd off cn : Int) (p1 p2 cd : ByteArray), cs = [.int .i64 acl, .int .i64 ati, .int .i64 ck, .string p1, .string p2, .int .i64 fl, .int .i64 fd, .int .i64 off, .int .i64 cn, .string cd] ∧ (I64 acl ∧ I64 ati ∧ I64 ck ∧ I64 fl ∧ I64 fd ∧ I64 off ∧ I64 cn) ∧ (p1.size ≤ Rows.uptoBulk x.1 ∧ p2.size ≤ Rows.uptoBulk x.1 ∧ cd.size ≤ Rows.uptoBulk x.1) := by
  obtain ⟨xs, m, _, hxx, hl, hxl, hg⟩ := DataW.trod_struct Tryz.underlying54 h
  rw [vc_ask] at hl
  rcases cs with _ | ⟨c0, cs⟩
  · exact absurd hl (by simp)
  rcases cs with _ | ⟨c1, cs⟩
  · exact absurd hl (by simp)
  rcases cs with _ | ⟨c2, cs⟩
  · exact absurd hl (by simp)
  rcases cs with _ | ⟨c3, cs⟩
  · exact absurd hl (by simp)
  rcases cs with _ | ⟨c4, cs⟩
  · exact absurd hl (by simp)
  rcases cs with _ | ⟨c5, cs⟩
  · exact absurd hl (by simp)
  rcases cs with _ | ⟨c6, cs⟩
  · exact absurd hl (by simp)
  rcases cs with _ | ⟨c7, cs⟩
  · exact absurd hl (by simp)
  rcases cs with _ | ⟨c8, cs⟩
  · exact absurd hl (by simp)
  rcases cs with _ | ⟨c9, cs⟩
  · exact absurd hl (by simp)
  rcases cs with _ | ⟨_, _⟩
  rotate_left
  · exact absurd hl (by simp)
  match xs, hxl, hxx with
  | [y0, y1, y2], _, hxx =>
    have g0 : DataW.trod enc Tryz.prog W base spare held m 3 ((List.drop 0 [c0, c1, c2, c3, c4, c5, c6, c7, c8, c9]).take (Tryz.prog.cellsOf 3)) = some y0 := hg 0 _ rfl
    rw [vc_int] at g0
    have g1 : DataW.trod enc Tryz.prog W base spare held m 3 ((List.drop 1 [c0, c1, c2, c3, c4, c5, c6, c7, c8, c9]).take (Tryz.prog.cellsOf 3)) = some y1 := hg 1 _ rfl
    rw [vc_int] at g1
    have g2 : DataW.trod enc Tryz.prog W base spare held m 30 ((List.drop 2 [c0, c1, c2, c3, c4, c5, c6, c7, c8, c9]).take (Tryz.prog.cellsOf 30)) = some y2 := hg 2 _ rfl
    rw [vc_call] at g2
    have hbk : Rows.uptoBulk x.1 = Rows.uptoBulk y0.1 + Rows.uptoBulk y1.1 + Rows.uptoBulk y2.1 + 1 := by
      subst hxx
      simp only [List.map_cons, List.map_nil, Rows.uptoBulk, Rows.uptoBulkAll]
      omega
    obtain ⟨acl, rfl, i_acl⟩ := v1_int g0
    obtain ⟨ati, rfl, i_ati⟩ := v1_int g1
    obtain ⟨ck, fl, fd, off, cn, p1, p2, cd, e2, ⟨i_ck, i_fl, i_fd, i_off, i_cn⟩, ⟨s_p1, s_p2, s_cd⟩⟩ := open_call g2
    cases e2
    exact ⟨acl, ati, ck, fl, fd, off, cn, p1, p2, cd, rfl, ⟨i_acl, i_ati, i_ck, i_fl, i_fd, i_off, i_cn⟩, ⟨by rw [hbk]; omega, by rw [hbk]; omega, by rw [hbk]; omega⟩⟩
theorem open_packet {cs : List Value} (h : DataW.trod enc Tryz.prog W base spare held fuel 41 cs = some x) (hbd : Rows.uptoBulk x.1 ≤ 1048576) : ∃ (p : Pk) (A : Option Addr) (c : Nat) (L : List (List UInt8)), cs = (pkC p).toList ∧ PkW p ∧ p.nv = .slice A L.length c ∧ nmB L ≤ 1100000 ∧ ((∀ q ∈ x.2, q.block < W.heap.size) → StrR W A L) := by
  obtain ⟨kd, cl, ep, sq, op, at_, n, old, new, ck, fl, fd, off, cn, ino, er, re, rfd, ik, il, isz, wr, nk, nl, ns, b0, b1, b2, b3, o0, o1, o2, o3, o4, o5, o6, o7, d, p1, p2, cd, rd, A, c, L, rfl, ⟨i_kd, i_cl, i_ep, i_sq, i_op, i_at_, i_n, i_old, i_new, i_ck, i_fl, i_fd, i_off, i_cn, i_ino, i_er, i_re, i_rfd, i_ik, i_il, i_isz, i_wr, i_nk, i_nl, i_ns, i_b0, i_b1, i_b2, i_b3, i_o0, i_o1, i_o2, i_o3, i_o4, i_o5, i_o6, i_o7⟩, ⟨s_d, s_p1, s_p2, s_cd, s_rd⟩, hnm, hst⟩ := open_packet0 h
  exact ⟨{ kd := kd, cl := cl, ep := ep, sq := sq, op := op, at_ := at_, n := n, d := d, old := old, new := new, ck := ck, p1 := p1, p2 := p2, fl := fl, fd := fd, off := off, cn := cn, cd := cd, ino := ino, er := er, re := re, rfd := rfd, rd := rd, ik := ik, il := il, isz := isz, wr := wr, nk := nk, nl := nl, ns := ns, b0 := b0, b1 := b1, b2 := b2, b3 := b3, o0 := o0, o1 := o1, o2 := o2, o3 := o3, o4 := o4, o5 := o5, o6 := o6, o7 := o7, nv := .slice A L.length c }, A, c, L, rfl, { kd := i_kd, cl := i_cl, ep := i_ep, sq := i_sq, op := i_op, at_ := i_at_, n := i_n, old := i_old, new := i_new, ck := i_ck, fl := i_fl, fd := i_fd, off := i_off, cn := i_cn, ino := i_ino, er := i_er, re := i_re, rfd := i_rfd, ik := i_ik, il := i_il, isz := i_isz, wr := i_wr, nk := i_nk, nl := i_nl, ns := i_ns, b0 := i_b0, b1 := i_b1, b2 := i_b2, b3 := i_b3, o0 := i_o0, o1 := i_o1, o2 := i_o2, o3 := i_o3, o4 := i_o4, o5 := i_o5, o6 := i_o6, o7 := i_o7, d := Nat.le_trans s_d (by omega), p1 := Nat.le_trans s_p1 (by omega), p2 := Nat.le_trans s_p2 (by omega), cd := Nat.le_trans s_cd (by omega), rd := Nat.le_trans s_rd (by omega) }, rfl, by omega, hst⟩
end
set_option maxRecDepth 100000 in
theorem open_tolds {H : Type} {enc : TypeId × Value → H} {W : World} {base : Nat} {v : Value} {d : DataW H} {p : List MemPlace} (hv : Value.okWide Tryz.prog W .any base 23 v) (hd : DataW.Trod enc Tryz.prog W 0 (fun _ => true) true 23 v d p) (hlt : ∀ x ∈ p, x.block < W.heap.size) (hbd : Rows.uptoBulk d ≤ 1048576) :
    ∃ (A : Option Addr) (m c : Nat), v = .slice A m c ∧ m ≤ 1100000 ∧ ToldR W A m := by
  obtain ⟨a0, len, cap, rfl⟩ := Go.WideShapes.okWide_slice Tryz.underlying23 hv
  obtain ⟨fuel, hf⟩ := hd
  rcases Go.Deep.open_slice Tryz.underlying23 hf with ⟨hcs, _⟩ | ⟨a, len', cap', m, n, D, Pl, hcs, _, hl, hm, hmm, hx, hi⟩
  · simp [Value.cells] at hcs
    obtain ⟨rfl, rfl, rfl⟩ := hcs
    exact ⟨none, 0, 0, rfl, by omega, fun i hi => absurd hi (by omega)⟩
  · simp [Value.cells] at hcs
    obtain ⟨rfl, rfl, rfl⟩ := hcs
    simp only [if_true] at hmm
    subst hmm
    rw [vc_packet] at hi hx
    simp only [Prod.mk.injEq] at hx
    obtain ⟨rfl, rfl⟩ := hx
    have hb1 := Nat.le_trans (bulk_slice _ _) hbd
    have hb2 := bulk_length ((List.range len).map D)
    rw [List.length_map, List.length_range] at hb2
    obtain ⟨b, o, spot⟩ := a
    refine ⟨_, len, m, rfl, by omega, fun i hil hi2 => ?_⟩
    obtain ⟨cs', h1, h2⟩ := hi i (by omega)
    have hbi : Rows.uptoBulk (D i) ≤ 1048576 := Nat.le_trans (bulk_part (List.mem_map.2 ⟨i, List.mem_range.2 hil, rfl⟩)) hb1
    obtain ⟨p, A, c, L, rfl, h3, h4, h5, h6⟩ := open_packet h2 hbi
    obtain ⟨_, _, hat⟩ := World.cells?_some h1
    obtain ⟨cs0, h10, _⟩ := hi 0 (by omega)
    obtain ⟨_, hl0, hat0⟩ := World.cells?_some h10
    have hspot : spot = none := by simpa [Addr.add] using World.cell?_spot ((hat0 0 (by decide)).trans (List.getElem?_eq_getElem (by rw [hl0]; decide)))
    subst hspot
    refine ⟨b, o, rfl, hlt (.cell b o) (List.mem_append_left _ (MemPlace.mem_row.2 ⟨0, by omega, by simp⟩)), p, A, c, L, fun j v hj => ?_, h3, h4, h5, h6 fun q hq => hlt q (List.mem_append_right _ (List.mem_flatMap.2 ⟨i, List.mem_range.2 (by omega), hq⟩))⟩
    have hj5 : j < 43 := (List.getElem?_eq_some_iff.1 hj).1
    have := (hat j hj5).trans hj
    rwa [Addr.add_lit, Addr.add_lit] at this
set_option maxRecDepth 100000 in
theorem open_asks {H : Type} {enc : TypeId × Value → H} {W : World} {base : Nat} {v : Value} {d : DataW H} {p : List MemPlace} (hv : Value.okWide Tryz.prog W .any base 22 v) (hd : DataW.Trod enc Tryz.prog W 0 (fun _ => true) true 22 v d p) (hlt : ∀ x ∈ p, x.block < W.heap.size) (hbd : Rows.uptoBulk d ≤ 1048576) :
    ∃ (A : Option Addr) (m c : Nat), v = .slice A m c ∧ m ≤ 1100000 ∧ AskR W A m 10 := by
  obtain ⟨a0, len, cap, rfl⟩ := Go.WideShapes.okWide_slice Tryz.underlying22 hv
  obtain ⟨fuel, hf⟩ := hd
  rcases Go.Deep.open_slice Tryz.underlying22 hf with ⟨hcs, _⟩ | ⟨a, len', cap', m, n, D, Pl, hcs, _, hl, hm, hmm, hx, hi⟩
  · simp [Value.cells] at hcs
    obtain ⟨rfl, rfl, rfl⟩ := hcs
    exact ⟨none, 0, 0, rfl, by omega, fun i hi => absurd hi (by omega)⟩
  · simp [Value.cells] at hcs
    obtain ⟨rfl, rfl, rfl⟩ := hcs
    simp only [if_true] at hmm
    subst hmm
    rw [vc_ask] at hi hx
    simp only [Prod.mk.injEq] at hx
    obtain ⟨rfl, rfl⟩ := hx
    have hb1 := Nat.le_trans (bulk_slice _ _) hbd
    have hb2 := bulk_length ((List.range len).map D)
    rw [List.length_map, List.length_range] at hb2
    obtain ⟨b, o, spot⟩ := a
    refine ⟨_, len, m, rfl, by omega, fun i hil hi2 => ?_⟩
    obtain ⟨cs', h1, h2⟩ := hi i (by omega)
    have hbi : Rows.uptoBulk (D i) ≤ 1048576 := Nat.le_trans (bulk_part (List.mem_map.2 ⟨i, List.mem_range.2 hil, rfl⟩)) hb1
    obtain ⟨acl, ati, ck, fl, fd, off, cn, p1, p2, cd, rfl, ⟨_, _, _, _, i_fd, _, _⟩, ⟨s1, s2, s3⟩⟩ := open_ask0 h2
    obtain ⟨_, _, hat⟩ := World.cells?_some h1
    obtain ⟨cs0, h10, _⟩ := hi 0 (by omega)
    obtain ⟨_, hl0, hat0⟩ := World.cells?_some h10
    have hspot : spot = none := by simpa [Addr.add] using World.cell?_spot ((hat0 0 (by decide)).trans (List.getElem?_eq_getElem (by rw [hl0]; decide)))
    subst hspot
    refine ⟨b, o, rfl, hlt (.cell b o) (List.mem_append_left _ (MemPlace.mem_row.2 ⟨0, by omega, by simp⟩)), ck, p1, p2, fl, fd, off, cn, cd, fun j v hj => ?_, i_fd, Nat.le_trans s1 (Nat.le_trans hbi (by decide)), Nat.le_trans s2 (Nat.le_trans hbi (by decide)), Nat.le_trans s3 (Nat.le_trans hbi (by decide))⟩
    have hj5 : j < 8 := (List.getElem?_eq_some_iff.1 hj).1
    have := (hat (2 + j) (by omega)).trans (show _ = some v by rw [Nat.add_comm 2 j]; exact hj)
    rw [Addr.add_lit, Addr.add_lit] at this
    rwa [Nat.add_assoc]
end Go.Proofs.YtiinponoeaihcaaGreat
