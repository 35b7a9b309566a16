/- Walks: few, lives, and the laws NamesMay, NamesPaths, NamesParents, NamesHashes. -/
import Derived.Test.YtoadbipcfolheaaDoorNamesWalkE
namespace Go.Proofs.YtoadbipcfolheaaDoor
open Go.RowKit

/-- the library's one variable that is read holds an int -/
def Mx (w : World) : Prop := ∃ m : Int, w.cell? ⟨0, 0, none⟩ = some (.int .i64 m)
theorem Mx.keep {w w' : World} (h : Mx w) (hb : Below w.heap.size w w') : Mx w' := by
  obtain ⟨m, hm⟩ := h
  refine ⟨m, (hb.cell (p := ⟨_, 0, none⟩) ?_).trans hm⟩
  show 0 < w.heap.size
  unfold World.cell? at hm
  cases hh : w.heap[0]? with
  | none => rw [show (⟨0, 0, none⟩ : Addr).block = 0 from rfl, hh] at hm; cases hm
  | some o => exact (Array.getElem?_eq_some_iff.1 hh).1

theorem pathY (s : ByteArray) (L : List (List UInt8)) (w : World) (hs : s.size ≤ 100000) (hM : Mx w) (h : Np.pathL s.data.toList = some L) : Calls Tryd.prog 15 #[.string s] w (PathYes L w) := by
  obtain ⟨m, hm⟩ := hM
  exact path_yes s L m w hs hm h
theorem pathN (s : ByteArray) (w : World) (hs : s.size ≤ 100000) (hM : Mx w) (h : Np.pathL s.data.toList = none) :
    Calls Tryd.prog 15 #[.string s] w fun e w' => e = .returned (.tuple #[.slice none 0 0, .int .i64 15]) ∧ Below w.heap.size w w' := by
  obtain ⟨m, hm⟩ := hM
  exact path_no s m w hs hm h
theorem rpathY (s : ByteArray) (L : List (List UInt8)) (w : World) (hs : s.size ≤ 100000) (h : Np.pathL s.data.toList = some L) : Calls Tryd.prog 16 #[.string s] w (PathYes L w) :=
  (rpath_any s w hs).mono fun e w' hr => by
    rw [h] at hr
    rcases hr with ⟨h1, _⟩ | ⟨M, h1, h2⟩
    · cases h1
    · obtain rfl := Option.some.inj h1
      exact h2
theorem rpathN (s : ByteArray) (w : World) (hs : s.size ≤ 100000) (h : Np.pathL s.data.toList = none) :
    Calls Tryd.prog 16 #[.string s] w fun e w' => e = .returned (.tuple #[.slice none 0 0, .int .i64 15]) ∧ Below w.heap.size w w' :=
  (rpath_any s w hs).mono fun e w' hr => by
    rw [h] at hr
    rcases hr with ⟨_, h2⟩ | ⟨M, h1, _⟩
    · exact h2
    · cases h1
theorem parentY (s : ByteArray) (L : List (List UInt8)) (x : List UInt8) (w : World) (hs : s.size ≤ 100000) (hM : Mx w) (h : Np.pathL s.data.toList = some (L ++ [x])) : Calls Tryd.prog 18 #[.string s] w (ParYes L x w) := by
  obtain ⟨m, hm⟩ := hM
  exact parent_yes s L x m w hs hm h
theorem parentN (s : ByteArray) (w : World) (hs : s.size ≤ 100000) (hM : Mx w) (h : Np.pathL s.data.toList = none ∨ Np.pathL s.data.toList = some []) :
    Calls Tryd.prog 18 #[.string s] w fun e w' => e = .returned (.tuple #[.slice none 0 0, .string ⟨#[]⟩, .int .i64 15]) ∧ Below w.heap.size w w' := by
  obtain ⟨m, hm⟩ := hM
  exact parent_no s m w hs hm h

def fewB (s : ByteArray) : ByteArray := if 120 < s.size then s.extract 0 120 else s
theorem fewB_size (s : ByteArray) : (fewB s).size ≤ 120 := by
  unfold fewB; split
  · rw [ByteArray.size_extract]; omega
  · omega
set_option maxHeartbeats 400000 in
theorem few_any (s : ByteArray) (w : World) (hs : s.size ≤ 9223372036854775807) :
    Calls Tryd.prog 11 #[.string s] w fun e w' => e = .returned (.string (fewB s)) ∧ w = w' := by
  unfold fewB
  by_cases h : 120 < s.size
  · rw [if_pos h]
    have h2 : (120 : Int) ≤ s.size := by omega
    go_enter Tryd.func11, Tryd.ntmps11
    go_wp2
    go_ret
    exact ⟨rfl, rfl⟩
  · rw [if_neg h]
    go_enter Tryd.func11, Tryd.ntmps11
    go_wp2
    go_ret
    exact ⟨rfl, rfl⟩

theorem hash_nil (w : World) : Calls Tryd.prog 19 #[.string ⟨#[]⟩] w fun e w' => e = .returned (.int .i64 8) ∧ w = w' := by
  have h := hash_any ⟨#[]⟩ w (by show 0 ≤ _; omega)
  rw [show hashV (⟨#[]⟩ : ByteArray).data.toList = 8 by show hashV [] = 8; unfold hashV Np.hashN; rw [List.foldl_nil]; unfold Np.basis; omega] at h
  exact h

set_option maxHeartbeats 2000000 in
theorem lives_any (w : World) (hM : Mx w) : Calls Tryd.prog 14 #[] w fun e w' => e = .returned (.bool true) ∧ Below w.heap.size w w' := by
  have h1 := fun W hW => pathY ⟨#[47, 97, 47, 98, 46, 99]⟩ [[97], [98, 46, 99]] W (by decide) hW (by decide)
  have h2 := fun W hW => pathN ⟨#[47, 97, 47]⟩ W (by decide) hW (by decide)
  have h3 := fun W hW => pathN ⟨#[97]⟩ W (by decide) hW (by decide)
  have h4 := fun W hW => pathN ⟨#[47, 65]⟩ W (by decide) hW (by decide)
  have h5 := fun W hW => parentY ⟨#[47, 97, 47, 98]⟩ [[97]] [98] W (by decide) hW (by decide)
  have H1 := Lib.hid h1; clear h1
  have H2 := Lib.hid h2; clear h2
  have H3 := Lib.hid h3; clear h3
  have H4 := Lib.hid h4; clear h4
  have H5 := Lib.hid h5; clear h5
  have HM := Lib.hid hM; clear hM
  go_enter Tryd.func14, Tryd.ntmps14
  go_wp2_with fail
  refine (H1.out _ HM.out).mono ?_
  rintro e w1 ⟨A, c, rfl, hc, hS, hb1⟩
  have M1 := HM.out.keep hb1
  obtain ⟨b, o, rfl, hl1, hl2, hcl, _⟩ : ∃ b o, A = some ⟨b, o, none⟩ ∧ w.heap.size ≤ b ∧ b < w1.heap.size ∧ w1.cell? ⟨b, o + 1, none⟩ = some (.string ⟨#[98, 46, 99]⟩) ∧ True := by
    rcases hS with h | ⟨b, o, h1, h2, h3, h4, _⟩
    · cases h
    · exact ⟨b, o, h1, h2, h3, h4 1 [98, 46, 99] rfl, trivial⟩
  have HM1 := Lib.hid M1; clear M1 hS
  go_wp2_with fail
  refine (H2.out _ HM1.out).mono ?_
  rintro e w2 ⟨rfl, hb2⟩
  have HM2 := Lib.hid (HM1.out.keep hb2)
  have hcl2 := (hb2.cell (p := ⟨b, o + 1, none⟩) hl2).trans hcl
  have hs2 := hb2.size
  clear hcl
  go_wp2_with fail
  refine (H3.out _ HM2.out).mono ?_
  rintro e w3 ⟨rfl, hb3⟩
  have HM3 := Lib.hid (HM2.out.keep hb3)
  have hcl3 := (hb3.cell (p := ⟨b, o + 1, none⟩) (by show b < _; omega)).trans hcl2
  have hs3 := hb3.size
  clear hcl2
  go_wp2_with fail
  refine (H4.out _ HM3.out).mono ?_
  rintro e w4 ⟨rfl, hb4⟩
  have HM4 := Lib.hid (HM3.out.keep hb4)
  have hcl4 := (hb4.cell (p := ⟨b, o + 1, none⟩) (by show b < _; omega)).trans hcl3
  have hs4 := hb4.size
  clear hcl3
  go_wp2_with fail
  refine (H5.out _ HM4.out).mono ?_
  rintro e w5 ⟨A', rfl, hS', hb5⟩
  have hcl5 := (hb5.cell (p := ⟨b, o + 1, none⟩) (by show b < _; omega)).trans hcl4
  clear hcl4 hS'
  have hB : Below w.heap.size w w5 := (((hb1.trans (hb2.mono (by have := hb1.size; omega))).trans (hb3.mono (by have := hb1.size; omega))).trans (hb4.mono (by have := hb1.size; omega))).trans (hb5.mono (by have := hb1.size; omega))
  go_wp2_with fail
  refine (hash_nil _).mono ?_
  rintro e w6 ⟨rfl, rfl⟩
  go_wp2
  go_ret
  exact ⟨rfl, hB⟩

set_option maxHeartbeats 1000000 in
theorem law_may (s : ByteArray) (w : World) (hs : s.size ≤ 9223372036854775807) (hM : Mx w) :
    Calls Tryd.prog 3 #[.string s] w fun e w' => e = .returned (.bool true) ∧ Below w.heap.size w w' := by
  have h0 := fun W => few_any s W hs
  have hsz := fewB_size s
  obtain ⟨t, ht⟩ : ∃ t, t = fewB s := ⟨_, rfl⟩
  rw [← ht] at h0 hsz
  clear ht
  have H0 := Lib.hid h0; clear h0
  have h1 := fun W => may_any t W (by omega)
  have h2 := fun W => rmay_any t W (by omega)
  obtain ⟨b, hb⟩ : ∃ b, b = Np.nameB t.data.toList := ⟨_, rfl⟩
  rw [← hb] at h1 h2
  clear hb
  have H1 := Lib.hid h1; clear h1
  have H2 := Lib.hid h2; clear h2
  have HM := Lib.hid hM; clear hM
  go_enter Tryd.func3, Tryd.ntmps3
  go_wp2_with fail
  refine (H0.out _).mono ?_
  rintro e w' ⟨rfl, rfl⟩
  go_wp2_with fail
  refine (H1.out _).mono ?_
  rintro e w1 ⟨rfl, hb1⟩
  have HM1 := Lib.hid (HM.out.keep hb1)
  go_wp2_with fail
  refine (H2.out _).mono ?_
  rintro e w2 ⟨rfl, rfl⟩
  go_wp2_with fail
  refine (lives_any _ HM1.out).mono ?_
  rintro e w3 ⟨rfl, hb3⟩
  go_wp2
  go_ret
  exact ⟨rfl, hb1.trans (hb3.mono hb1.size)⟩

set_option maxHeartbeats 1000000 in
theorem law_hashes (s : ByteArray) (w : World) (hs : s.size ≤ 9223372036854775807) (hM : Mx w) :
    Calls Tryd.prog 6 #[.string s] w fun e w' => e = .returned (.bool true) ∧ Below w.heap.size w w' := by
  have HM := Lib.hid hM; clear hM
  have main : ∀ t : ByteArray, t.size ≤ 60 → ∃ v : Int, 0 ≤ v ∧ v ≤ 15 ∧ (∀ W, Calls Tryd.prog 19 #[.string t] W fun e w' => e = .returned (.int .i64 v) ∧ W = w') ∧
      (∀ W, Calls Tryd.prog 20 #[.string t] W fun e w' => e = .returned (.int .i64 v) ∧ Below W.heap.size W w') := fun t ht =>
    ⟨hashV t.data.toList, (hashV_lt _).1, (hashV_lt _).2, fun W => hash_any t W (by omega), fun W => rhash_any t W (by omega)⟩
  by_cases h : 60 < s.size
  · have h2 : (60 : Int) ≤ s.size := by omega
    obtain ⟨v, hv0, hv1, h1, h2'⟩ := main (s.extract 0 60) (by rw [ByteArray.size_extract]; omega)
    have H1 := Lib.hid h1; clear h1
    have H2 := Lib.hid h2'; clear h2' main
    go_enter Tryd.func6, Tryd.ntmps6
    go_wp2_with fail
    refine (H1.out _).mono ?_
    rintro e w' ⟨rfl, rfl⟩
    go_wp2_with fail
    refine (H2.out _).mono ?_
    rintro e w1 ⟨rfl, hb1⟩
    go_wp2_with fail
    refine (lives_any _ (HM.out.keep hb1)).mono ?_
    rintro e w3 ⟨rfl, hb3⟩
    go_wp2
    go_ret
    exact ⟨rfl, hb1.trans (hb3.mono hb1.size)⟩
  · obtain ⟨v, hv0, hv1, h1, h2'⟩ := main s (by omega)
    have H1 := Lib.hid h1; clear h1
    have H2 := Lib.hid h2'; clear h2' main
    go_enter Tryd.func6, Tryd.ntmps6
    go_wp2_with fail
    refine (H1.out _).mono ?_
    rintro e w' ⟨rfl, rfl⟩
    go_wp2_with fail
    refine (H2.out _).mono ?_
    rintro e w1 ⟨rfl, hb1⟩
    go_wp2_with fail
    refine (lives_any _ (HM.out.keep hb1)).mono ?_
    rintro e w3 ⟨rfl, hb3⟩
    go_wp2
    go_ret
    exact ⟨rfl, hb1.trans (hb3.mono hb1.size)⟩

end Go.Proofs.YtoadbipcfolheaaDoor
