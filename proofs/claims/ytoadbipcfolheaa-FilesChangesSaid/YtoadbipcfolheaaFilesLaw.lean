/- Walks: commonslaw15.cut, FilesChanges, FilesTwice. -/
import Derived.Test.YtoadbipcfolheaaFilesWalkD
import Derived.Deep.RegionHeld3
import Derived.Deep.DrawnRows
namespace Go.Proofs.Ytoadbipcfolheaa
open Go.RowKit
attribute [local go_sem ↓] Go.wp_at_zero Go.wp_at_succ

def cutB (d : ByteArray) : ByteArray := if 80 < d.size then d.extract 0 80 else d
theorem cutB_size (d : ByteArray) : (cutB d).size ≤ 80 := by
  unfold cutB; split
  · rw [ByteArray.size_extract]; omega
  · omega

set_option maxHeartbeats 400000 in
theorem cut_any (call inode : Int) (tr : Bool) (off : Int) (d : ByteArray) (w : World) (hd : d.size ≤ 9223372036854775807) :
    Calls Try.prog 5 #[recV call inode tr off d] w fun e w' => e = .returned (recV call inode tr off (cutB d)) ∧ Below w.heap.size w w' := by
  unfold recV cutB
  by_cases h : 80 < d.size
  · rw [if_pos h]
    have h2 : (80 : Int) ≤ d.size := by omega
    go_enter Try.func5, Try.ntmps5
    go_wp2
    refine bodyPost_ret (v := .agg #[.int .i64 call, .int .i64 inode, .bool tr, .int .i64 off, .string (d.extract 0 80)]) (by simp [results, Try.results5, go_sem]) rfl ⟨rfl, ?_⟩
    exact ((Below.refl _ _).alloc (Nat.le_refl _) _).alloc (by simp) _
  · rw [if_neg h]
    go_enter Try.func5, Try.ntmps5
    go_wp2
    refine bodyPost_ret (v := .agg #[.int .i64 call, .int .i64 inode, .bool tr, .int .i64 off, .string d]) (by simp [results, Try.results5, go_sem]) rfl ⟨rfl, ?_⟩
    exact ((Below.refl _ _).alloc (Nat.le_refl _) _).alloc (by simp) _

/-- a record's five cells in the first block that the call makes; below it all is as it was -/
theorem keep5 {v0 v1 v2 v3 v4 : Value} {w W W' : World} (hb : Below W.heap.size W W')
    (h : W.cell? ⟨w.heap.size, 0, none⟩ = some v0 ∧ W.cell? ⟨w.heap.size, 1, none⟩ = some v1 ∧ W.cell? ⟨w.heap.size, 2, none⟩ = some v2 ∧ W.cell? ⟨w.heap.size, 3, none⟩ = some v3 ∧ W.cell? ⟨w.heap.size, 4, none⟩ = some v4 ∧ w.heap.size < W.heap.size ∧ Below w.heap.size w W) :
    W'.cell? ⟨w.heap.size, 0, none⟩ = some v0 ∧ W'.cell? ⟨w.heap.size, 1, none⟩ = some v1 ∧ W'.cell? ⟨w.heap.size, 2, none⟩ = some v2 ∧ W'.cell? ⟨w.heap.size, 3, none⟩ = some v3 ∧ W'.cell? ⟨w.heap.size, 4, none⟩ = some v4 ∧ w.heap.size < W'.heap.size ∧ Below w.heap.size w W' := by
  obtain ⟨h0, h1, h2, h3, h4, hz, hB⟩ := h
  refine ⟨(hb.cell (p := ⟨_, _, _⟩) hz).trans h0, (hb.cell (p := ⟨_, _, _⟩) hz).trans h1, (hb.cell (p := ⟨_, _, _⟩) hz).trans h2, (hb.cell (p := ⟨_, _, _⟩) hz).trans h3, (hb.cell (p := ⟨_, _, _⟩) hz).trans h4, ?_, hB.trans (hb.mono (by omega))⟩
  have := hb.size
  omega

theorem put5 {w w0 : World} {b : Nat} {u0 u1 u2 u3 u4 v0 v1 v2 v3 v4 : Value} (h0 : w0.cell? ⟨b, 0, none⟩ = some u0) (h1 : w0.cell? ⟨b, 1, none⟩ = some u1) (h2 : w0.cell? ⟨b, 2, none⟩ = some u2) (h3 : w0.cell? ⟨b, 3, none⟩ = some u3) (h4 : w0.cell? ⟨b, 4, none⟩ = some u4)
    (hw : w = ((((w0.setCell ⟨b, 0, none⟩ v0).setCell ⟨b, 1, none⟩ v1).setCell ⟨b, 2, none⟩ v2).setCell ⟨b, 3, none⟩ v3).setCell ⟨b, 4, none⟩ v4) :
    w.cell? ⟨b, 0, none⟩ = some v0 ∧ w.cell? ⟨b, 1, none⟩ = some v1 ∧ w.cell? ⟨b, 2, none⟩ = some v2 ∧ w.cell? ⟨b, 3, none⟩ = some v3 ∧ w.cell? ⟨b, 4, none⟩ = some v4 := by
  subst hw
  simp [World.cell?_setCell_same', World.cell?_setCell_other, h0, h1, h2, h3, h4]

/-- behind the boxing of a record, the call of cut and the store of what it gave -/
theorem cut_put {call inode : Int} {tr : Bool} {off : Int} {d d' : ByteArray} {T : TypeId} {w w1 : World}
    (hb1 : Below (w.alloc (.cells #[.int .i64 call, .int .i64 inode, .bool tr, .int .i64 off, .string d] T)).heap.size (w.alloc (.cells #[.int .i64 call, .int .i64 inode, .bool tr, .int .i64 off, .string d] T)) w1) {W : World}
    (hW : W = ((((w1.setCell ⟨w.heap.size, 0, none⟩ (.int .i64 call)).setCell ⟨w.heap.size, 1, none⟩ (.int .i64 inode)).setCell ⟨w.heap.size, 2, none⟩ (.bool tr)).setCell ⟨w.heap.size, 3, none⟩ (.int .i64 off)).setCell ⟨w.heap.size, 4, none⟩ (.string d')) :
    W.cell? ⟨w.heap.size, 0, none⟩ = some (.int .i64 call) ∧ W.cell? ⟨w.heap.size, 1, none⟩ = some (.int .i64 inode) ∧ W.cell? ⟨w.heap.size, 2, none⟩ = some (.bool tr) ∧ W.cell? ⟨w.heap.size, 3, none⟩ = some (.int .i64 off) ∧ W.cell? ⟨w.heap.size, 4, none⟩ = some (.string d') ∧ w.heap.size < W.heap.size ∧ Below w.heap.size w W := by
  obtain ⟨hc1, hf1⟩ := bcell hb1
  obtain ⟨k0, k1, k2, k3, k4⟩ := put5 (w0 := w1) (b := w.heap.size) (by rw [hc1 _ _ (by simp)]; simp [go_sem]; rfl) (by rw [hc1 _ _ (by simp)]; simp [go_sem]; rfl) (by rw [hc1 _ _ (by simp)]; simp [go_sem]; rfl) (by rw [hc1 _ _ (by simp)]; simp [go_sem]; rfl) (by rw [hc1 _ _ (by simp)]; simp [go_sem]; rfl) hW
  have hz := hb1.size
  simp only [World.size_alloc] at hz
  refine ⟨k0, k1, k2, k3, k4, by rw [hW]; simp; omega, ?_⟩
  subst hW
  exact (((((((Below.refl _ _).alloc (Nat.le_refl _) _).trans (hb1.mono (by simp))).setCell (Nat.le_refl _) _).setCell (Nat.le_refl _) _).setCell (Nat.le_refl _) _).setCell (Nat.le_refl _) _).setCell (Nat.le_refl _) _

set_option maxHeartbeats 1000000 in
theorem changes_short (s : ByteArray) (call inode : Int) (tr : Bool) (off : Int) (d : ByteArray) (w : World) (hs : s.size ≤ 300) (hd : d.size ≤ 9223372036854775807) :
    Calls Try.prog 3 #[.string s, recV call inode tr off d] w fun e w' => e = .returned (.bool true) ∧ Below w.heap.size w w' := by
  obtain ⟨r, hr⟩ : ∃ r, r = Fp.chg (s).data.toList call inode tr off (cutB d).data.toList := ⟨_, rfl⟩
  have hc80 := cutB_size d
  have hs3 : (s).size ≤ 300 := by first | omega | (rw [ByteArray.size_extract]; omega)
  have h0 := fun W => cut_any call inode tr off d W hd
  have h1 := fun W => change_any (s) call inode tr off (cutB d) W hs3 hc80
  have h2 := fun W => rchange_any (s) call inode tr off (cutB d) W hs3 hc80
  rw [← hr] at h1 h2
  have H0 := Lib.hid h0; clear h0
  have H1 := Lib.hid h1; clear h1
  have H2 := Lib.hid h2; clear h2
  have h3 := fun W => may_any call inode tr off (cutB d) W (by omega)
  have h4 := fun W => rmay_any call inode tr off (cutB d) W (by omega)
  obtain ⟨m, hm⟩ : ∃ m, m = Fp.mayB call inode tr off (cutB d).data.toList := ⟨_, rfl⟩
  rw [← hm] at h3 h4
  have H3 := Lib.hid h3; clear h3
  have H4 := Lib.hid h4; clear h4
  obtain ⟨d', hd'⟩ : ∃ d', d' = cutB d := ⟨_, rfl⟩
  rw [← hd'] at H0 H1 H2 H3 H4
  clear hr hm hd' hc80 hs3
  obtain ⟨rl, rc⟩ := r
  unfold recV chgV at *
  simp only at *
  go_enter Try.func3, Try.ntmps3
  go_wp2_with fail
  refine (H0.out _).mono ?_
  rintro e w1 ⟨rfl, hb1⟩
  obtain ⟨hc1, hf1⟩ := bcell hb1
  go_wp2_with fail
  refine (H1.out _).mono ?_
  rintro e w2 ⟨rfl, hb2⟩
  obtain ⟨k0, k1, k2, k3, k4, hz2, hB2⟩ := keep5 hb2 (cut_put hb1 rfl)
  clear hc1 hf1 hb1 hb2
  go_wp2_with fail
  refine (H2.out _).mono ?_
  rintro e w3 ⟨rfl, hb3⟩
  obtain ⟨q0, q1, q2, q3, q4, hz3, hB3⟩ := keep5 hb3 ⟨k0, k1, k2, k3, k4, hz2, hB2⟩
  clear k0 k1 k2 k3 k4 hz2 hB2 hb3
  go_wp2_with fail
  go_region_held3 (fun W => W.cell? ⟨w.heap.size, 0, none⟩ = some (.int .i64 call) ∧ W.cell? ⟨w.heap.size, 1, none⟩ = some (.int .i64 inode) ∧ W.cell? ⟨w.heap.size, 2, none⟩ = some (.bool tr) ∧ W.cell? ⟨w.heap.size, 3, none⟩ = some (.int .i64 off) ∧ W.cell? ⟨w.heap.size, 4, none⟩ = some (.string d') ∧ w.heap.size < W.heap.size ∧ Below w.heap.size w W)
    (first | exact ⟨q0, q1, q2, q3, q4, hz3, hB3.drew⟩ | exact keep5 (by assumption) (by assumption))
    (first | (go_at_call 8; refine (H3.out _).mono ?_; rintro e w4 ⟨rfl, hb4⟩) | (go_at_call 9; refine (H4.out _).mono ?_; rintro e w5 ⟨rfl, hb5⟩) | (go_at_call 10; refine (lives_any _).mono ?_; rintro e w6 ⟨rfl, hb6⟩))
  go_wp2
  go_ret
  refine ⟨rfl, ?_⟩
  rename_i hS
  exact hS.2.2.2.2.2.2

set_option maxHeartbeats 1000000 in
theorem changes_long (s : ByteArray) (call inode : Int) (tr : Bool) (off : Int) (d : ByteArray) (w : World) (hs : 300 < s.size) (hs2 : (300 : Int) ≤ s.size) (hd : d.size ≤ 9223372036854775807) :
    Calls Try.prog 3 #[.string s, recV call inode tr off d] w fun e w' => e = .returned (.bool true) ∧ Below w.heap.size w w' := by
  obtain ⟨r, hr⟩ : ∃ r, r = Fp.chg (s.extract 0 300).data.toList call inode tr off (cutB d).data.toList := ⟨_, rfl⟩
  have hc80 := cutB_size d
  have hs3 : (s.extract 0 300).size ≤ 300 := by first | omega | (rw [ByteArray.size_extract]; omega)
  have h0 := fun W => cut_any call inode tr off d W hd
  have h1 := fun W => change_any (s.extract 0 300) call inode tr off (cutB d) W hs3 hc80
  have h2 := fun W => rchange_any (s.extract 0 300) call inode tr off (cutB d) W hs3 hc80
  rw [← hr] at h1 h2
  have H0 := Lib.hid h0; clear h0
  have H1 := Lib.hid h1; clear h1
  have H2 := Lib.hid h2; clear h2
  have h3 := fun W => may_any call inode tr off (cutB d) W (by omega)
  have h4 := fun W => rmay_any call inode tr off (cutB d) W (by omega)
  obtain ⟨m, hm⟩ : ∃ m, m = Fp.mayB call inode tr off (cutB d).data.toList := ⟨_, rfl⟩
  rw [← hm] at h3 h4
  have H3 := Lib.hid h3; clear h3
  have H4 := Lib.hid h4; clear h4
  obtain ⟨d', hd'⟩ : ∃ d', d' = cutB d := ⟨_, rfl⟩
  rw [← hd'] at H0 H1 H2 H3 H4
  clear hr hm hd' hc80 hs3
  obtain ⟨rl, rc⟩ := r
  unfold recV chgV at *
  simp only at *
  go_enter Try.func3, Try.ntmps3
  go_wp2_with fail
  refine (H0.out _).mono ?_
  rintro e w1 ⟨rfl, hb1⟩
  obtain ⟨hc1, hf1⟩ := bcell hb1
  go_wp2_with fail
  refine (H1.out _).mono ?_
  rintro e w2 ⟨rfl, hb2⟩
  obtain ⟨k0, k1, k2, k3, k4, hz2, hB2⟩ := keep5 hb2 (cut_put hb1 rfl)
  clear hc1 hf1 hb1 hb2
  go_wp2_with fail
  refine (H2.out _).mono ?_
  rintro e w3 ⟨rfl, hb3⟩
  obtain ⟨q0, q1, q2, q3, q4, hz3, hB3⟩ := keep5 hb3 ⟨k0, k1, k2, k3, k4, hz2, hB2⟩
  clear k0 k1 k2 k3 k4 hz2 hB2 hb3
  go_wp2_with fail
  go_region_held3 (fun W => W.cell? ⟨w.heap.size, 0, none⟩ = some (.int .i64 call) ∧ W.cell? ⟨w.heap.size, 1, none⟩ = some (.int .i64 inode) ∧ W.cell? ⟨w.heap.size, 2, none⟩ = some (.bool tr) ∧ W.cell? ⟨w.heap.size, 3, none⟩ = some (.int .i64 off) ∧ W.cell? ⟨w.heap.size, 4, none⟩ = some (.string d') ∧ w.heap.size < W.heap.size ∧ Below w.heap.size w W)
    (first | exact ⟨q0, q1, q2, q3, q4, hz3, hB3.drew⟩ | exact keep5 (by assumption) (by assumption))
    (first | (go_at_call 8; refine (H3.out _).mono ?_; rintro e w4 ⟨rfl, hb4⟩) | (go_at_call 9; refine (H4.out _).mono ?_; rintro e w5 ⟨rfl, hb5⟩) | (go_at_call 10; refine (lives_any _).mono ?_; rintro e w6 ⟨rfl, hb6⟩))
  go_wp2
  go_ret
  refine ⟨rfl, ?_⟩
  rename_i hS
  exact hS.2.2.2.2.2.2

set_option maxHeartbeats 1000000 in
theorem twice_short (s : ByteArray) (call inode : Int) (tr : Bool) (off : Int) (d : ByteArray) (w : World) (hs : s.size ≤ 256) (hd : d.size ≤ 9223372036854775807) :
    Calls Try.prog 4 #[.string s, recV call inode tr off d] w fun e w' => e = .returned (.bool true) ∧ Below w.heap.size w w' := by
  obtain ⟨r, hr⟩ : ∃ r, r = Fp.chg (s).data.toList call inode tr off (cutB d).data.toList := ⟨_, rfl⟩
  have hc80 := cutB_size d
  have hs3 : (s).size ≤ 300 := by first | omega | (rw [ByteArray.size_extract]; omega)
  have h0 := fun W => cut_any call inode tr off d W hd
  have h1 := fun W => change_any (s) call inode tr off (cutB d) W hs3 hc80
  rw [← hr] at h1
  have H0 := Lib.hid h0; clear h0
  have H1 := Lib.hid h1; clear h1
  by_cases hc : r.2 = 0
  · have hrr := Fp.chg_twice (s).data.toList call inode tr off (cutB d).data.toList (by rw [← hr]; exact hc)
    rw [← hr] at hrr
    have hle := Fp.chg_le (s).data.toList call inode tr off (cutB d).data.toList
    rw [← hr] at hle
    have h2 := fun W => change_any ⟨r.1.toArray⟩ call inode tr off (cutB d) W (by rw [Lib.size_eq]; simp; omega) hc80
    rw [show (⟨r.1.toArray⟩ : ByteArray).data.toList = r.1 from rfl, hrr] at h2
    have H2 := Lib.hid h2; clear h2
    obtain ⟨d', hd'⟩ : ∃ d', d' = cutB d := ⟨_, rfl⟩
    rw [← hd'] at H0 H1 H2
    clear hr hrr hd' hc80 hs3 hle
    obtain ⟨rl, rc⟩ := r
    simp only at hc
    subst hc
    unfold recV chgV at *
    simp only at *
    go_enter Try.func4, Try.ntmps4
    go_wp2_with fail
    refine (H0.out _).mono ?_
    rintro e w1 ⟨rfl, hb1⟩
    obtain ⟨hc1, hf1⟩ := bcell hb1
    go_wp2_with fail
    refine (H1.out _).mono ?_
    rintro e w2 ⟨rfl, hb2⟩
    obtain ⟨k0, k1, k2, k3, k4, hz2, hB2⟩ := keep5 hb2 (cut_put hb1 rfl)
    clear hc1 hf1 hb1 hb2
    go_wp2_with fail
    refine (H2.out _).mono ?_
    rintro e w3 ⟨rfl, hb3⟩
    obtain ⟨q0, q1, q2, q3, q4, hz3, hB3⟩ := keep5 hb3 ⟨k0, k1, k2, k3, k4, hz2, hB2⟩
    clear k0 k1 k2 k3 k4 hz2 hB2 hb3 q0 q1 q2 q3 q4
    go_wp2_with fail
    refine (lives_any _).mono ?_
    rintro e w4 ⟨rfl, hb4⟩
    go_wp2
    go_ret
    exact ⟨rfl, hB3.trans (hb4.mono (by omega))⟩
  · have hbad := Fp.chg_bad (s).data.toList call inode tr off (cutB d).data.toList (by rw [← hr]; exact hc)
    rw [← hr] at hbad
    obtain ⟨d', hd'⟩ : ∃ d', d' = cutB d := ⟨_, rfl⟩
    rw [← hd'] at H0 H1
    clear hr hd' hc80 hs3
    obtain ⟨rl, rc⟩ := r
    simp only at hc hbad
    subst hbad
    have hrc : (rc != 0) = true := by simpa using hc
    clear hc
    unfold recV chgV at *
    simp only at *
    go_enter Try.func4, Try.ntmps4
    go_wp2_with fail
    refine (H0.out _).mono ?_
    rintro e w1 ⟨rfl, hb1⟩
    obtain ⟨hc1, hf1⟩ := bcell hb1
    go_wp2_with fail
    refine (H1.out _).mono ?_
    rintro e w2 ⟨rfl, hb2⟩
    obtain ⟨k0, k1, k2, k3, k4, hz2, hB2⟩ := keep5 hb2 (cut_put hb1 rfl)
    clear hc1 hf1 hb1 hb2
    go_wp2_with fail
    refine (lives_any _).mono ?_
    rintro e w4 ⟨rfl, hb4⟩
    go_wp2
    go_ret
    exact ⟨rfl, hB2.trans (hb4.mono (by omega))⟩

set_option maxHeartbeats 1000000 in
theorem twice_long (s : ByteArray) (call inode : Int) (tr : Bool) (off : Int) (d : ByteArray) (w : World) (hs : 256 < s.size) (hs2 : (256 : Int) ≤ s.size) (hd : d.size ≤ 9223372036854775807) :
    Calls Try.prog 4 #[.string s, recV call inode tr off d] w fun e w' => e = .returned (.bool true) ∧ Below w.heap.size w w' := by
  obtain ⟨r, hr⟩ : ∃ r, r = Fp.chg (s.extract 0 256).data.toList call inode tr off (cutB d).data.toList := ⟨_, rfl⟩
  have hc80 := cutB_size d
  have hs3 : (s.extract 0 256).size ≤ 300 := by first | omega | (rw [ByteArray.size_extract]; omega)
  have h0 := fun W => cut_any call inode tr off d W hd
  have h1 := fun W => change_any (s.extract 0 256) call inode tr off (cutB d) W hs3 hc80
  rw [← hr] at h1
  have H0 := Lib.hid h0; clear h0
  have H1 := Lib.hid h1; clear h1
  by_cases hc : r.2 = 0
  · have hrr := Fp.chg_twice (s.extract 0 256).data.toList call inode tr off (cutB d).data.toList (by rw [← hr]; exact hc)
    rw [← hr] at hrr
    have hle := Fp.chg_le (s.extract 0 256).data.toList call inode tr off (cutB d).data.toList
    rw [← hr] at hle
    have h2 := fun W => change_any ⟨r.1.toArray⟩ call inode tr off (cutB d) W (by rw [Lib.size_eq]; simp; omega) hc80
    rw [show (⟨r.1.toArray⟩ : ByteArray).data.toList = r.1 from rfl, hrr] at h2
    have H2 := Lib.hid h2; clear h2
    obtain ⟨d', hd'⟩ : ∃ d', d' = cutB d := ⟨_, rfl⟩
    rw [← hd'] at H0 H1 H2
    clear hr hrr hd' hc80 hs3 hle
    obtain ⟨rl, rc⟩ := r
    simp only at hc
    subst hc
    unfold recV chgV at *
    simp only at *
    go_enter Try.func4, Try.ntmps4
    go_wp2_with fail
    refine (H0.out _).mono ?_
    rintro e w1 ⟨rfl, hb1⟩
    obtain ⟨hc1, hf1⟩ := bcell hb1
    go_wp2_with fail
    refine (H1.out _).mono ?_
    rintro e w2 ⟨rfl, hb2⟩
    obtain ⟨k0, k1, k2, k3, k4, hz2, hB2⟩ := keep5 hb2 (cut_put hb1 rfl)
    clear hc1 hf1 hb1 hb2
    go_wp2_with fail
    refine (H2.out _).mono ?_
    rintro e w3 ⟨rfl, hb3⟩
    obtain ⟨q0, q1, q2, q3, q4, hz3, hB3⟩ := keep5 hb3 ⟨k0, k1, k2, k3, k4, hz2, hB2⟩
    clear k0 k1 k2 k3 k4 hz2 hB2 hb3 q0 q1 q2 q3 q4
    go_wp2_with fail
    refine (lives_any _).mono ?_
    rintro e w4 ⟨rfl, hb4⟩
    go_wp2
    go_ret
    exact ⟨rfl, hB3.trans (hb4.mono (by omega))⟩
  · have hbad := Fp.chg_bad (s.extract 0 256).data.toList call inode tr off (cutB d).data.toList (by rw [← hr]; exact hc)
    rw [← hr] at hbad
    obtain ⟨d', hd'⟩ : ∃ d', d' = cutB d := ⟨_, rfl⟩
    rw [← hd'] at H0 H1
    clear hr hd' hc80 hs3
    obtain ⟨rl, rc⟩ := r
    simp only at hc hbad
    subst hbad
    have hrc : (rc != 0) = true := by simpa using hc
    clear hc
    unfold recV chgV at *
    simp only at *
    go_enter Try.func4, Try.ntmps4
    go_wp2_with fail
    refine (H0.out _).mono ?_
    rintro e w1 ⟨rfl, hb1⟩
    obtain ⟨hc1, hf1⟩ := bcell hb1
    go_wp2_with fail
    refine (H1.out _).mono ?_
    rintro e w2 ⟨rfl, hb2⟩
    obtain ⟨k0, k1, k2, k3, k4, hz2, hB2⟩ := keep5 hb2 (cut_put hb1 rfl)
    clear hc1 hf1 hb1 hb2
    go_wp2_with fail
    refine (lives_any _).mono ?_
    rintro e w4 ⟨rfl, hb4⟩
    go_wp2
    go_ret
    exact ⟨rfl, hB2.trans (hb4.mono (by omega))⟩

theorem changes_any (s : ByteArray) (call inode : Int) (tr : Bool) (off : Int) (d : ByteArray) (w : World) (hd : d.size ≤ 9223372036854775807) :
    Calls Try.prog 3 #[.string s, recV call inode tr off d] w fun e w' => e = .returned (.bool true) ∧ Below w.heap.size w w' := by
  by_cases h : s.size ≤ 300
  · exact changes_short s call inode tr off d w h hd
  · exact changes_long s call inode tr off d w (by omega) (by omega) hd
theorem twice_any (s : ByteArray) (call inode : Int) (tr : Bool) (off : Int) (d : ByteArray) (w : World) (hd : d.size ≤ 9223372036854775807) :
    Calls Try.prog 4 #[.string s, recV call inode tr off d] w fun e w' => e = .returned (.bool true) ∧ Below w.heap.size w w' := by
  by_cases h : s.size ≤ 256
  · exact twice_short s call inode tr off d w h hd
  · exact twice_long s call inode tr off d w (by omega) (by omega) hd

end Go.Proofs.Ytoadbipcfolheaa
