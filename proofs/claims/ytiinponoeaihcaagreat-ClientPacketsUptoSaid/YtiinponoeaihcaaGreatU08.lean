/- A client: atOnce. -/
import Derived.Test.YtiinponoeaihcaaGreatU07
set_option linter.unusedVariables false
set_option linter.unusedSimpArgs false
set_option linter.unusedSectionVars false
namespace Go.Proofs.YtiinponoeaihcaaGreat
open Go.RowKit Go.Shelf

attribute [local go_sem] Oper.semAt_some
def inoF (f : Nat → Int) (fd : Int) : Int := if 0 ≤ fd ∧ fd < 8 then f fd.toNat else 0
section
variable {cb : Nat} {S : Cs} {w0 : World} {Ls : List (Nat × Obj)}
set_option maxHeartbeats 4000000 in
set_option maxRecDepth 100000 in
theorem once_else (kd : Int) (p1 p2 : ByteArray) (fl fd off n : Int) (d : ByteArray) (hf : I64 fd) (hk : kd < 1 ∨ 13 < kd) (w : World) (h : Ck cb S w0 Ls w) :
    Calls Tryz.prog 48 #[pC cb, .agg #[.int .i64 kd, .string p1, .string p2, .int .i64 fl, .int .i64 fd, .int .i64 off, .int .i64 n, .string d]] w fun e w' => e = .returned (.tuple #[.int .i64 15, .bool true]) ∧ Below w.heap.size w w' := by
  have H := Lib.hid h
  clear h
  have e1 : ¬ kd = 1 := by omega
  have e2 : ¬ kd = 2 := by omega
  have e3 : ¬ kd = 3 := by omega
  have e4 : ¬ kd = 4 := by omega
  have e5 : ¬ kd = 5 := by omega
  have e6 : ¬ kd = 6 := by omega
  have e7 : ¬ kd = 7 := by omega
  have e8 : ¬ kd = 8 := by omega
  have e9 : ¬ kd = 9 := by omega
  have e10 : ¬ kd = 10 := by omega
  have e11 : ¬ kd = 11 := by omega
  have e12 : ¬ kd = 12 := by omega
  have e13 : ¬ kd = 13 := by omega
  clear hk
  go_enter Tryz.func48, Tryz.ntmps48
  go_upto_region 1 with fail
  obtain ⟨w1, hw⟩ : ∃ u, u = w.alloc (.cells #[.int .i64 kd, .string p1, .string p2, .int .i64 fl, .int .i64 fd, .int .i64 off, .int .i64 n, .string d] 30) := ⟨_, rfl⟩
  obtain ⟨n0, hn⟩ : ∃ u, u = w.heap.size := ⟨_, rfl⟩
  rw [← hw, ← hn]
  have H1 : Hid (Ck cb S w0 ((n0, .cells #[.int .i64 kd, .string p1, .string p2, .int .i64 fl, .int .i64 fd, .int .i64 off, .int .i64 n, .string d] 30 (0, 0)) :: Ls) w1) := Lib.hid (by rw [hw, hn]; exact H.out.box _ _)
  have HB : Hid (Below w.heap.size w w1) := Lib.hid (by rw [hw]; exact (Below.refl _ _).alloc (Nat.le_refl _) _)
  have hb := H1.out.get (k := n0) List.mem_cons_self
  have d0 := cell_of_row w1 n0 0 _ _ _ hb
  have d1 := cell_of_row w1 n0 1 _ _ _ hb
  have d2 := cell_of_row w1 n0 2 _ _ _ hb
  have d3 := cell_of_row w1 n0 3 _ _ _ hb
  have d4 := cell_of_row w1 n0 4 _ _ _ hb
  have d5 := cell_of_row w1 n0 5 _ _ _ hb
  have d6 := cell_of_row w1 n0 6 _ _ _ hb
  have d7 := cell_of_row w1 n0 7 _ _ _ hb
  have HI := Lib.hid (cinode_any fd hf w1 H1.out)
  clear hw hn hb hf
  dsimp at d0 d1 d2 d3 d4 d5 d6 d7
  go_wp2_with fail
  go_ret2
  exact ⟨rfl, HB.out⟩
set_option maxHeartbeats 4000000 in
set_option maxRecDepth 100000 in
theorem once_open_neg (p1 p2 : ByteArray) (fl fd off n : Int) (d : ByteArray) (hf : I64 fd) (hc : fl < 0) (w : World) (h : Ck cb S w0 Ls w) :
    Calls Tryz.prog 48 #[pC cb, .agg #[.int .i64 1, .string p1, .string p2, .int .i64 fl, .int .i64 fd, .int .i64 off, .int .i64 n, .string d]] w fun e w' => e = .returned (.tuple #[.int .i64 15, .bool true]) ∧ Below w.heap.size w w' := by
  have H := Lib.hid h
  clear h
  go_enter Tryz.func48, Tryz.ntmps48
  go_upto_region 1 with fail
  obtain ⟨w1, hw⟩ : ∃ u, u = w.alloc (.cells #[.int .i64 1, .string p1, .string p2, .int .i64 fl, .int .i64 fd, .int .i64 off, .int .i64 n, .string d] 30) := ⟨_, rfl⟩
  obtain ⟨n0, hn⟩ : ∃ u, u = w.heap.size := ⟨_, rfl⟩
  rw [← hw, ← hn]
  have H1 : Hid (Ck cb S w0 ((n0, .cells #[.int .i64 1, .string p1, .string p2, .int .i64 fl, .int .i64 fd, .int .i64 off, .int .i64 n, .string d] 30 (0, 0)) :: Ls) w1) := Lib.hid (by rw [hw, hn]; exact H.out.box _ _)
  have HB : Hid (Below w.heap.size w w1) := Lib.hid (by rw [hw]; exact (Below.refl _ _).alloc (Nat.le_refl _) _)
  have hb := H1.out.get (k := n0) List.mem_cons_self
  have d0 := cell_of_row w1 n0 0 _ _ _ hb
  have d1 := cell_of_row w1 n0 1 _ _ _ hb
  have d2 := cell_of_row w1 n0 2 _ _ _ hb
  have d3 := cell_of_row w1 n0 3 _ _ _ hb
  have d4 := cell_of_row w1 n0 4 _ _ _ hb
  have d5 := cell_of_row w1 n0 5 _ _ _ hb
  have d6 := cell_of_row w1 n0 6 _ _ _ hb
  have d7 := cell_of_row w1 n0 7 _ _ _ hb
  have HI := Lib.hid (cinode_any fd hf w1 H1.out)
  clear hw hn hb hf
  dsimp at d0 d1 d2 d3 d4 d5 d6 d7
  go_wp2_with fail
  go_quiet (fail)
  go_wp2
  go_ret2
  exact ⟨rfl, below_drewN HB.out _⟩
set_option maxHeartbeats 4000000 in
set_option maxRecDepth 100000 in
theorem once_open_big (p1 p2 : ByteArray) (fl fd off n : Int) (d : ByteArray) (hf : I64 fd) (hc : 3 < fl) (w : World) (h : Ck cb S w0 Ls w) :
    Calls Tryz.prog 48 #[pC cb, .agg #[.int .i64 1, .string p1, .string p2, .int .i64 fl, .int .i64 fd, .int .i64 off, .int .i64 n, .string d]] w fun e w' => e = .returned (.tuple #[.int .i64 15, .bool true]) ∧ Below w.heap.size w w' := by
  have H := Lib.hid h
  clear h
  have hc2 : ¬ fl < 0 := by omega
  go_enter Tryz.func48, Tryz.ntmps48
  go_upto_region 1 with fail
  obtain ⟨w1, hw⟩ : ∃ u, u = w.alloc (.cells #[.int .i64 1, .string p1, .string p2, .int .i64 fl, .int .i64 fd, .int .i64 off, .int .i64 n, .string d] 30) := ⟨_, rfl⟩
  obtain ⟨n0, hn⟩ : ∃ u, u = w.heap.size := ⟨_, rfl⟩
  rw [← hw, ← hn]
  have H1 : Hid (Ck cb S w0 ((n0, .cells #[.int .i64 1, .string p1, .string p2, .int .i64 fl, .int .i64 fd, .int .i64 off, .int .i64 n, .string d] 30 (0, 0)) :: Ls) w1) := Lib.hid (by rw [hw, hn]; exact H.out.box _ _)
  have HB : Hid (Below w.heap.size w w1) := Lib.hid (by rw [hw]; exact (Below.refl _ _).alloc (Nat.le_refl _) _)
  have hb := H1.out.get (k := n0) List.mem_cons_self
  have d0 := cell_of_row w1 n0 0 _ _ _ hb
  have d1 := cell_of_row w1 n0 1 _ _ _ hb
  have d2 := cell_of_row w1 n0 2 _ _ _ hb
  have d3 := cell_of_row w1 n0 3 _ _ _ hb
  have d4 := cell_of_row w1 n0 4 _ _ _ hb
  have d5 := cell_of_row w1 n0 5 _ _ _ hb
  have d6 := cell_of_row w1 n0 6 _ _ _ hb
  have d7 := cell_of_row w1 n0 7 _ _ _ hb
  have HI := Lib.hid (cinode_any fd hf w1 H1.out)
  clear hw hn hb hf
  dsimp at d0 d1 d2 d3 d4 d5 d6 d7
  go_wp2_with fail
  go_quiet (fail)
  go_wp2
  go_ret2
  exact ⟨rfl, below_drewN HB.out _⟩
set_option maxHeartbeats 4000000 in
set_option maxRecDepth 100000 in
theorem once_open_only (p1 p2 : ByteArray) (fl fd off n : Int) (d : ByteArray) (hf : I64 fd) (hc : fl = 2) (w : World) (h : Ck cb S w0 Ls w) :
    Calls Tryz.prog 48 #[pC cb, .agg #[.int .i64 1, .string p1, .string p2, .int .i64 fl, .int .i64 fd, .int .i64 off, .int .i64 n, .string d]] w fun e w' => e = .returned (.tuple #[.int .i64 15, .bool true]) ∧ Below w.heap.size w w' := by
  have H := Lib.hid h
  clear h
  have hc4 : ¬ fl < 0 := by omega
  have hc5 : ¬ 3 < fl := by omega
  have hc6 : (fl == 2) = true := by simpa using hc
  clear hc
  go_enter Tryz.func48, Tryz.ntmps48
  go_upto_region 1 with fail
  obtain ⟨w1, hw⟩ : ∃ u, u = w.alloc (.cells #[.int .i64 1, .string p1, .string p2, .int .i64 fl, .int .i64 fd, .int .i64 off, .int .i64 n, .string d] 30) := ⟨_, rfl⟩
  obtain ⟨n0, hn⟩ : ∃ u, u = w.heap.size := ⟨_, rfl⟩
  rw [← hw, ← hn]
  have H1 : Hid (Ck cb S w0 ((n0, .cells #[.int .i64 1, .string p1, .string p2, .int .i64 fl, .int .i64 fd, .int .i64 off, .int .i64 n, .string d] 30 (0, 0)) :: Ls) w1) := Lib.hid (by rw [hw, hn]; exact H.out.box _ _)
  have HB : Hid (Below w.heap.size w w1) := Lib.hid (by rw [hw]; exact (Below.refl _ _).alloc (Nat.le_refl _) _)
  have hb := H1.out.get (k := n0) List.mem_cons_self
  have d0 := cell_of_row w1 n0 0 _ _ _ hb
  have d1 := cell_of_row w1 n0 1 _ _ _ hb
  have d2 := cell_of_row w1 n0 2 _ _ _ hb
  have d3 := cell_of_row w1 n0 3 _ _ _ hb
  have d4 := cell_of_row w1 n0 4 _ _ _ hb
  have d5 := cell_of_row w1 n0 5 _ _ _ hb
  have d6 := cell_of_row w1 n0 6 _ _ _ hb
  have d7 := cell_of_row w1 n0 7 _ _ _ hb
  have HI := Lib.hid (cinode_any fd hf w1 H1.out)
  clear hw hn hb hf
  dsimp at d0 d1 d2 d3 d4 d5 d6 d7
  go_wp2_with fail
  go_quiet (fail)
  go_wp2
  go_ret2
  exact ⟨rfl, below_drewN HB.out _⟩
set_option maxHeartbeats 4000000 in
set_option maxRecDepth 100000 in
theorem once_open_ok (p1 p2 : ByteArray) (fl fd off n : Int) (d : ByteArray) (hf : I64 fd) (hc : 0 ≤ fl ∧ fl ≤ 3 ∧ ¬ fl = 2) (w : World) (h : Ck cb S w0 Ls w) :
    Calls Tryz.prog 48 #[pC cb, .agg #[.int .i64 1, .string p1, .string p2, .int .i64 fl, .int .i64 fd, .int .i64 off, .int .i64 n, .string d]] w fun e w' => e = .returned (.tuple #[.int .i64 15, .bool (decide ((100 : Int) < p1.size))]) ∧ Below w.heap.size w w' := by
  have H := Lib.hid h
  clear h
  obtain ⟨hc1, hc2, hc3⟩ := hc
  have hc4 : ¬ fl < 0 := by omega
  have hc5 : ¬ 3 < fl := by omega
  have hc6 : (fl == 2) = false := by simpa using hc3
  clear hc3
  go_enter Tryz.func48, Tryz.ntmps48
  go_upto_region 1 with fail
  obtain ⟨w1, hw⟩ : ∃ u, u = w.alloc (.cells #[.int .i64 1, .string p1, .string p2, .int .i64 fl, .int .i64 fd, .int .i64 off, .int .i64 n, .string d] 30) := ⟨_, rfl⟩
  obtain ⟨n0, hn⟩ : ∃ u, u = w.heap.size := ⟨_, rfl⟩
  rw [← hw, ← hn]
  have H1 : Hid (Ck cb S w0 ((n0, .cells #[.int .i64 1, .string p1, .string p2, .int .i64 fl, .int .i64 fd, .int .i64 off, .int .i64 n, .string d] 30 (0, 0)) :: Ls) w1) := Lib.hid (by rw [hw, hn]; exact H.out.box _ _)
  have HB : Hid (Below w.heap.size w w1) := Lib.hid (by rw [hw]; exact (Below.refl _ _).alloc (Nat.le_refl _) _)
  have hb := H1.out.get (k := n0) List.mem_cons_self
  have d0 := cell_of_row w1 n0 0 _ _ _ hb
  have d1 := cell_of_row w1 n0 1 _ _ _ hb
  have d2 := cell_of_row w1 n0 2 _ _ _ hb
  have d3 := cell_of_row w1 n0 3 _ _ _ hb
  have d4 := cell_of_row w1 n0 4 _ _ _ hb
  have d5 := cell_of_row w1 n0 5 _ _ _ hb
  have d6 := cell_of_row w1 n0 6 _ _ _ hb
  have d7 := cell_of_row w1 n0 7 _ _ _ hb
  have HI := Lib.hid (cinode_any fd hf w1 H1.out)
  clear hw hn hb hf
  dsimp at d0 d1 d2 d3 d4 d5 d6 d7
  go_wp2_with fail
  go_quiet (fail)
  go_wp2
  go_ret2
  exact ⟨rfl, below_drewN HB.out _⟩
set_option maxHeartbeats 4000000 in
set_option maxRecDepth 100000 in
theorem once_link_big (p1 p2 : ByteArray) (fl fd off n : Int) (d : ByteArray) (hf : I64 fd) (hc : (100 : Int) < p1.size) (w : World) (h : Ck cb S w0 Ls w) :
    Calls Tryz.prog 48 #[pC cb, .agg #[.int .i64 9, .string p1, .string p2, .int .i64 fl, .int .i64 fd, .int .i64 off, .int .i64 n, .string d]] w fun e w' => e = .returned (.tuple #[.int .i64 15, .bool true]) ∧ Below w.heap.size w w' := by
  have H := Lib.hid h
  clear h
  go_enter Tryz.func48, Tryz.ntmps48
  go_upto_region 1 with fail
  obtain ⟨w1, hw⟩ : ∃ u, u = w.alloc (.cells #[.int .i64 9, .string p1, .string p2, .int .i64 fl, .int .i64 fd, .int .i64 off, .int .i64 n, .string d] 30) := ⟨_, rfl⟩
  obtain ⟨n0, hn⟩ : ∃ u, u = w.heap.size := ⟨_, rfl⟩
  rw [← hw, ← hn]
  have H1 : Hid (Ck cb S w0 ((n0, .cells #[.int .i64 9, .string p1, .string p2, .int .i64 fl, .int .i64 fd, .int .i64 off, .int .i64 n, .string d] 30 (0, 0)) :: Ls) w1) := Lib.hid (by rw [hw, hn]; exact H.out.box _ _)
  have HB : Hid (Below w.heap.size w w1) := Lib.hid (by rw [hw]; exact (Below.refl _ _).alloc (Nat.le_refl _) _)
  have hb := H1.out.get (k := n0) List.mem_cons_self
  have d0 := cell_of_row w1 n0 0 _ _ _ hb
  have d1 := cell_of_row w1 n0 1 _ _ _ hb
  have d2 := cell_of_row w1 n0 2 _ _ _ hb
  have d3 := cell_of_row w1 n0 3 _ _ _ hb
  have d4 := cell_of_row w1 n0 4 _ _ _ hb
  have d5 := cell_of_row w1 n0 5 _ _ _ hb
  have d6 := cell_of_row w1 n0 6 _ _ _ hb
  have d7 := cell_of_row w1 n0 7 _ _ _ hb
  have HI := Lib.hid (cinode_any fd hf w1 H1.out)
  clear hw hn hb hf
  dsimp at d0 d1 d2 d3 d4 d5 d6 d7
  go_wp2_with fail
  go_quiet (fail)
  go_wp2
  go_ret2
  exact ⟨rfl, below_drewN HB.out _⟩
set_option maxHeartbeats 4000000 in
set_option maxRecDepth 100000 in
theorem once_link_ok (p1 p2 : ByteArray) (fl fd off n : Int) (d : ByteArray) (hf : I64 fd) (hc : ¬ (100 : Int) < p1.size) (w : World) (h : Ck cb S w0 Ls w) :
    Calls Tryz.prog 48 #[pC cb, .agg #[.int .i64 9, .string p1, .string p2, .int .i64 fl, .int .i64 fd, .int .i64 off, .int .i64 n, .string d]] w fun e w' => e = .returned (.tuple #[.int .i64 15, .bool (decide ((100 : Int) < p2.size))]) ∧ Below w.heap.size w w' := by
  have H := Lib.hid h
  clear h
  have hcf : decide ((100 : Int) < p1.size) = false := by simpa using hc
  go_enter Tryz.func48, Tryz.ntmps48
  go_upto_region 1 with fail
  obtain ⟨w1, hw⟩ : ∃ u, u = w.alloc (.cells #[.int .i64 9, .string p1, .string p2, .int .i64 fl, .int .i64 fd, .int .i64 off, .int .i64 n, .string d] 30) := ⟨_, rfl⟩
  obtain ⟨n0, hn⟩ : ∃ u, u = w.heap.size := ⟨_, rfl⟩
  rw [← hw, ← hn]
  have H1 : Hid (Ck cb S w0 ((n0, .cells #[.int .i64 9, .string p1, .string p2, .int .i64 fl, .int .i64 fd, .int .i64 off, .int .i64 n, .string d] 30 (0, 0)) :: Ls) w1) := Lib.hid (by rw [hw, hn]; exact H.out.box _ _)
  have HB : Hid (Below w.heap.size w w1) := Lib.hid (by rw [hw]; exact (Below.refl _ _).alloc (Nat.le_refl _) _)
  have hb := H1.out.get (k := n0) List.mem_cons_self
  have d0 := cell_of_row w1 n0 0 _ _ _ hb
  have d1 := cell_of_row w1 n0 1 _ _ _ hb
  have d2 := cell_of_row w1 n0 2 _ _ _ hb
  have d3 := cell_of_row w1 n0 3 _ _ _ hb
  have d4 := cell_of_row w1 n0 4 _ _ _ hb
  have d5 := cell_of_row w1 n0 5 _ _ _ hb
  have d6 := cell_of_row w1 n0 6 _ _ _ hb
  have d7 := cell_of_row w1 n0 7 _ _ _ hb
  have HI := Lib.hid (cinode_any fd hf w1 H1.out)
  clear hw hn hb hf
  dsimp at d0 d1 d2 d3 d4 d5 d6 d7
  go_wp2_with fail
  go_quiet (fail)
  go_wp2
  go_ret2
  exact ⟨rfl, below_drewN HB.out _⟩
set_option maxHeartbeats 4000000 in
set_option maxRecDepth 100000 in
theorem once_rename_big (p1 p2 : ByteArray) (fl fd off n : Int) (d : ByteArray) (hf : I64 fd) (hc : (100 : Int) < p1.size) (w : World) (h : Ck cb S w0 Ls w) :
    Calls Tryz.prog 48 #[pC cb, .agg #[.int .i64 11, .string p1, .string p2, .int .i64 fl, .int .i64 fd, .int .i64 off, .int .i64 n, .string d]] w fun e w' => e = .returned (.tuple #[.int .i64 15, .bool true]) ∧ Below w.heap.size w w' := by
  have H := Lib.hid h
  clear h
  go_enter Tryz.func48, Tryz.ntmps48
  go_upto_region 1 with fail
  obtain ⟨w1, hw⟩ : ∃ u, u = w.alloc (.cells #[.int .i64 11, .string p1, .string p2, .int .i64 fl, .int .i64 fd, .int .i64 off, .int .i64 n, .string d] 30) := ⟨_, rfl⟩
  obtain ⟨n0, hn⟩ : ∃ u, u = w.heap.size := ⟨_, rfl⟩
  rw [← hw, ← hn]
  have H1 : Hid (Ck cb S w0 ((n0, .cells #[.int .i64 11, .string p1, .string p2, .int .i64 fl, .int .i64 fd, .int .i64 off, .int .i64 n, .string d] 30 (0, 0)) :: Ls) w1) := Lib.hid (by rw [hw, hn]; exact H.out.box _ _)
  have HB : Hid (Below w.heap.size w w1) := Lib.hid (by rw [hw]; exact (Below.refl _ _).alloc (Nat.le_refl _) _)
  have hb := H1.out.get (k := n0) List.mem_cons_self
  have d0 := cell_of_row w1 n0 0 _ _ _ hb
  have d1 := cell_of_row w1 n0 1 _ _ _ hb
  have d2 := cell_of_row w1 n0 2 _ _ _ hb
  have d3 := cell_of_row w1 n0 3 _ _ _ hb
  have d4 := cell_of_row w1 n0 4 _ _ _ hb
  have d5 := cell_of_row w1 n0 5 _ _ _ hb
  have d6 := cell_of_row w1 n0 6 _ _ _ hb
  have d7 := cell_of_row w1 n0 7 _ _ _ hb
  have HI := Lib.hid (cinode_any fd hf w1 H1.out)
  clear hw hn hb hf
  dsimp at d0 d1 d2 d3 d4 d5 d6 d7
  go_wp2_with fail
  go_quiet (fail)
  go_wp2
  go_ret2
  exact ⟨rfl, below_drewN HB.out _⟩
set_option maxHeartbeats 4000000 in
set_option maxRecDepth 100000 in
theorem once_rename_ok (p1 p2 : ByteArray) (fl fd off n : Int) (d : ByteArray) (hf : I64 fd) (hc : ¬ (100 : Int) < p1.size) (w : World) (h : Ck cb S w0 Ls w) :
    Calls Tryz.prog 48 #[pC cb, .agg #[.int .i64 11, .string p1, .string p2, .int .i64 fl, .int .i64 fd, .int .i64 off, .int .i64 n, .string d]] w fun e w' => e = .returned (.tuple #[.int .i64 15, .bool (decide ((100 : Int) < p2.size))]) ∧ Below w.heap.size w w' := by
  have H := Lib.hid h
  clear h
  have hcf : decide ((100 : Int) < p1.size) = false := by simpa using hc
  go_enter Tryz.func48, Tryz.ntmps48
  go_upto_region 1 with fail
  obtain ⟨w1, hw⟩ : ∃ u, u = w.alloc (.cells #[.int .i64 11, .string p1, .string p2, .int .i64 fl, .int .i64 fd, .int .i64 off, .int .i64 n, .string d] 30) := ⟨_, rfl⟩
  obtain ⟨n0, hn⟩ : ∃ u, u = w.heap.size := ⟨_, rfl⟩
  rw [← hw, ← hn]
  have H1 : Hid (Ck cb S w0 ((n0, .cells #[.int .i64 11, .string p1, .string p2, .int .i64 fl, .int .i64 fd, .int .i64 off, .int .i64 n, .string d] 30 (0, 0)) :: Ls) w1) := Lib.hid (by rw [hw, hn]; exact H.out.box _ _)
  have HB : Hid (Below w.heap.size w w1) := Lib.hid (by rw [hw]; exact (Below.refl _ _).alloc (Nat.le_refl _) _)
  have hb := H1.out.get (k := n0) List.mem_cons_self
  have d0 := cell_of_row w1 n0 0 _ _ _ hb
  have d1 := cell_of_row w1 n0 1 _ _ _ hb
  have d2 := cell_of_row w1 n0 2 _ _ _ hb
  have d3 := cell_of_row w1 n0 3 _ _ _ hb
  have d4 := cell_of_row w1 n0 4 _ _ _ hb
  have d5 := cell_of_row w1 n0 5 _ _ _ hb
  have d6 := cell_of_row w1 n0 6 _ _ _ hb
  have d7 := cell_of_row w1 n0 7 _ _ _ hb
  have HI := Lib.hid (cinode_any fd hf w1 H1.out)
  clear hw hn hb hf
  dsimp at d0 d1 d2 d3 d4 d5 d6 d7
  go_wp2_with fail
  go_quiet (fail)
  go_wp2
  go_ret2
  exact ⟨rfl, below_drewN HB.out _⟩
set_option maxHeartbeats 4000000 in
set_option maxRecDepth 100000 in
theorem once_mkdir (p1 p2 : ByteArray) (fl fd off n : Int) (d : ByteArray) (hf : I64 fd) (w : World) (h : Ck cb S w0 Ls w) :
    Calls Tryz.prog 48 #[pC cb, .agg #[.int .i64 7, .string p1, .string p2, .int .i64 fl, .int .i64 fd, .int .i64 off, .int .i64 n, .string d]] w fun e w' => e = .returned (.tuple #[.int .i64 15, .bool (decide ((100 : Int) < p1.size))]) ∧ Below w.heap.size w w' := by
  have H := Lib.hid h
  clear h
  go_enter Tryz.func48, Tryz.ntmps48
  go_upto_region 1 with fail
  obtain ⟨w1, hw⟩ : ∃ u, u = w.alloc (.cells #[.int .i64 7, .string p1, .string p2, .int .i64 fl, .int .i64 fd, .int .i64 off, .int .i64 n, .string d] 30) := ⟨_, rfl⟩
  obtain ⟨n0, hn⟩ : ∃ u, u = w.heap.size := ⟨_, rfl⟩
  rw [← hw, ← hn]
  have H1 : Hid (Ck cb S w0 ((n0, .cells #[.int .i64 7, .string p1, .string p2, .int .i64 fl, .int .i64 fd, .int .i64 off, .int .i64 n, .string d] 30 (0, 0)) :: Ls) w1) := Lib.hid (by rw [hw, hn]; exact H.out.box _ _)
  have HB : Hid (Below w.heap.size w w1) := Lib.hid (by rw [hw]; exact (Below.refl _ _).alloc (Nat.le_refl _) _)
  have hb := H1.out.get (k := n0) List.mem_cons_self
  have d0 := cell_of_row w1 n0 0 _ _ _ hb
  have d1 := cell_of_row w1 n0 1 _ _ _ hb
  have d2 := cell_of_row w1 n0 2 _ _ _ hb
  have d3 := cell_of_row w1 n0 3 _ _ _ hb
  have d4 := cell_of_row w1 n0 4 _ _ _ hb
  have d5 := cell_of_row w1 n0 5 _ _ _ hb
  have d6 := cell_of_row w1 n0 6 _ _ _ hb
  have d7 := cell_of_row w1 n0 7 _ _ _ hb
  have HI := Lib.hid (cinode_any fd hf w1 H1.out)
  clear hw hn hb hf
  dsimp at d0 d1 d2 d3 d4 d5 d6 d7
  go_wp2_with fail
  go_quiet (fail)
  go_wp2
  go_ret2
  exact ⟨rfl, below_drewN HB.out _⟩
set_option maxHeartbeats 4000000 in
set_option maxRecDepth 100000 in
theorem once_rmdir (p1 p2 : ByteArray) (fl fd off n : Int) (d : ByteArray) (hf : I64 fd) (w : World) (h : Ck cb S w0 Ls w) :
    Calls Tryz.prog 48 #[pC cb, .agg #[.int .i64 8, .string p1, .string p2, .int .i64 fl, .int .i64 fd, .int .i64 off, .int .i64 n, .string d]] w fun e w' => e = .returned (.tuple #[.int .i64 15, .bool (decide ((100 : Int) < p1.size))]) ∧ Below w.heap.size w w' := by
  have H := Lib.hid h
  clear h
  go_enter Tryz.func48, Tryz.ntmps48
  go_upto_region 1 with fail
  obtain ⟨w1, hw⟩ : ∃ u, u = w.alloc (.cells #[.int .i64 8, .string p1, .string p2, .int .i64 fl, .int .i64 fd, .int .i64 off, .int .i64 n, .string d] 30) := ⟨_, rfl⟩
  obtain ⟨n0, hn⟩ : ∃ u, u = w.heap.size := ⟨_, rfl⟩
  rw [← hw, ← hn]
  have H1 : Hid (Ck cb S w0 ((n0, .cells #[.int .i64 8, .string p1, .string p2, .int .i64 fl, .int .i64 fd, .int .i64 off, .int .i64 n, .string d] 30 (0, 0)) :: Ls) w1) := Lib.hid (by rw [hw, hn]; exact H.out.box _ _)
  have HB : Hid (Below w.heap.size w w1) := Lib.hid (by rw [hw]; exact (Below.refl _ _).alloc (Nat.le_refl _) _)
  have hb := H1.out.get (k := n0) List.mem_cons_self
  have d0 := cell_of_row w1 n0 0 _ _ _ hb
  have d1 := cell_of_row w1 n0 1 _ _ _ hb
  have d2 := cell_of_row w1 n0 2 _ _ _ hb
  have d3 := cell_of_row w1 n0 3 _ _ _ hb
  have d4 := cell_of_row w1 n0 4 _ _ _ hb
  have d5 := cell_of_row w1 n0 5 _ _ _ hb
  have d6 := cell_of_row w1 n0 6 _ _ _ hb
  have d7 := cell_of_row w1 n0 7 _ _ _ hb
  have HI := Lib.hid (cinode_any fd hf w1 H1.out)
  clear hw hn hb hf
  dsimp at d0 d1 d2 d3 d4 d5 d6 d7
  go_wp2_with fail
  go_quiet (fail)
  go_wp2
  go_ret2
  exact ⟨rfl, below_drewN HB.out _⟩
set_option maxHeartbeats 4000000 in
set_option maxRecDepth 100000 in
theorem once_unlink (p1 p2 : ByteArray) (fl fd off n : Int) (d : ByteArray) (hf : I64 fd) (w : World) (h : Ck cb S w0 Ls w) :
    Calls Tryz.prog 48 #[pC cb, .agg #[.int .i64 10, .string p1, .string p2, .int .i64 fl, .int .i64 fd, .int .i64 off, .int .i64 n, .string d]] w fun e w' => e = .returned (.tuple #[.int .i64 15, .bool (decide ((100 : Int) < p1.size))]) ∧ Below w.heap.size w w' := by
  have H := Lib.hid h
  clear h
  go_enter Tryz.func48, Tryz.ntmps48
  go_upto_region 1 with fail
  obtain ⟨w1, hw⟩ : ∃ u, u = w.alloc (.cells #[.int .i64 10, .string p1, .string p2, .int .i64 fl, .int .i64 fd, .int .i64 off, .int .i64 n, .string d] 30) := ⟨_, rfl⟩
  obtain ⟨n0, hn⟩ : ∃ u, u = w.heap.size := ⟨_, rfl⟩
  rw [← hw, ← hn]
  have H1 : Hid (Ck cb S w0 ((n0, .cells #[.int .i64 10, .string p1, .string p2, .int .i64 fl, .int .i64 fd, .int .i64 off, .int .i64 n, .string d] 30 (0, 0)) :: Ls) w1) := Lib.hid (by rw [hw, hn]; exact H.out.box _ _)
  have HB : Hid (Below w.heap.size w w1) := Lib.hid (by rw [hw]; exact (Below.refl _ _).alloc (Nat.le_refl _) _)
  have hb := H1.out.get (k := n0) List.mem_cons_self
  have d0 := cell_of_row w1 n0 0 _ _ _ hb
  have d1 := cell_of_row w1 n0 1 _ _ _ hb
  have d2 := cell_of_row w1 n0 2 _ _ _ hb
  have d3 := cell_of_row w1 n0 3 _ _ _ hb
  have d4 := cell_of_row w1 n0 4 _ _ _ hb
  have d5 := cell_of_row w1 n0 5 _ _ _ hb
  have d6 := cell_of_row w1 n0 6 _ _ _ hb
  have d7 := cell_of_row w1 n0 7 _ _ _ hb
  have HI := Lib.hid (cinode_any fd hf w1 H1.out)
  clear hw hn hb hf
  dsimp at d0 d1 d2 d3 d4 d5 d6 d7
  go_wp2_with fail
  go_quiet (fail)
  go_wp2
  go_ret2
  exact ⟨rfl, below_drewN HB.out _⟩
set_option maxHeartbeats 4000000 in
set_option maxRecDepth 100000 in
theorem once_list (p1 p2 : ByteArray) (fl fd off n : Int) (d : ByteArray) (hf : I64 fd) (w : World) (h : Ck cb S w0 Ls w) :
    Calls Tryz.prog 48 #[pC cb, .agg #[.int .i64 12, .string p1, .string p2, .int .i64 fl, .int .i64 fd, .int .i64 off, .int .i64 n, .string d]] w fun e w' => e = .returned (.tuple #[.int .i64 15, .bool (decide ((100 : Int) < p1.size))]) ∧ Below w.heap.size w w' := by
  have H := Lib.hid h
  clear h
  go_enter Tryz.func48, Tryz.ntmps48
  go_upto_region 1 with fail
  obtain ⟨w1, hw⟩ : ∃ u, u = w.alloc (.cells #[.int .i64 12, .string p1, .string p2, .int .i64 fl, .int .i64 fd, .int .i64 off, .int .i64 n, .string d] 30) := ⟨_, rfl⟩
  obtain ⟨n0, hn⟩ : ∃ u, u = w.heap.size := ⟨_, rfl⟩
  rw [← hw, ← hn]
  have H1 : Hid (Ck cb S w0 ((n0, .cells #[.int .i64 12, .string p1, .string p2, .int .i64 fl, .int .i64 fd, .int .i64 off, .int .i64 n, .string d] 30 (0, 0)) :: Ls) w1) := Lib.hid (by rw [hw, hn]; exact H.out.box _ _)
  have HB : Hid (Below w.heap.size w w1) := Lib.hid (by rw [hw]; exact (Below.refl _ _).alloc (Nat.le_refl _) _)
  have hb := H1.out.get (k := n0) List.mem_cons_self
  have d0 := cell_of_row w1 n0 0 _ _ _ hb
  have d1 := cell_of_row w1 n0 1 _ _ _ hb
  have d2 := cell_of_row w1 n0 2 _ _ _ hb
  have d3 := cell_of_row w1 n0 3 _ _ _ hb
  have d4 := cell_of_row w1 n0 4 _ _ _ hb
  have d5 := cell_of_row w1 n0 5 _ _ _ hb
  have d6 := cell_of_row w1 n0 6 _ _ _ hb
  have d7 := cell_of_row w1 n0 7 _ _ _ hb
  have HI := Lib.hid (cinode_any fd hf w1 H1.out)
  clear hw hn hb hf
  dsimp at d0 d1 d2 d3 d4 d5 d6 d7
  go_wp2_with fail
  go_quiet (fail)
  go_wp2
  go_ret2
  exact ⟨rfl, below_drewN HB.out _⟩
set_option maxHeartbeats 4000000 in
set_option maxRecDepth 100000 in
theorem once_stat (p1 p2 : ByteArray) (fl fd off n : Int) (d : ByteArray) (hf : I64 fd) (w : World) (h : Ck cb S w0 Ls w) :
    Calls Tryz.prog 48 #[pC cb, .agg #[.int .i64 13, .string p1, .string p2, .int .i64 fl, .int .i64 fd, .int .i64 off, .int .i64 n, .string d]] w fun e w' => e = .returned (.tuple #[.int .i64 15, .bool (decide ((100 : Int) < p1.size))]) ∧ Below w.heap.size w w' := by
  have H := Lib.hid h
  clear h
  go_enter Tryz.func48, Tryz.ntmps48
  go_upto_region 1 with fail
  obtain ⟨w1, hw⟩ : ∃ u, u = w.alloc (.cells #[.int .i64 13, .string p1, .string p2, .int .i64 fl, .int .i64 fd, .int .i64 off, .int .i64 n, .string d] 30) := ⟨_, rfl⟩
  obtain ⟨n0, hn⟩ : ∃ u, u = w.heap.size := ⟨_, rfl⟩
  rw [← hw, ← hn]
  have H1 : Hid (Ck cb S w0 ((n0, .cells #[.int .i64 13, .string p1, .string p2, .int .i64 fl, .int .i64 fd, .int .i64 off, .int .i64 n, .string d] 30 (0, 0)) :: Ls) w1) := Lib.hid (by rw [hw, hn]; exact H.out.box _ _)
  have HB : Hid (Below w.heap.size w w1) := Lib.hid (by rw [hw]; exact (Below.refl _ _).alloc (Nat.le_refl _) _)
  have hb := H1.out.get (k := n0) List.mem_cons_self
  have d0 := cell_of_row w1 n0 0 _ _ _ hb
  have d1 := cell_of_row w1 n0 1 _ _ _ hb
  have d2 := cell_of_row w1 n0 2 _ _ _ hb
  have d3 := cell_of_row w1 n0 3 _ _ _ hb
  have d4 := cell_of_row w1 n0 4 _ _ _ hb
  have d5 := cell_of_row w1 n0 5 _ _ _ hb
  have d6 := cell_of_row w1 n0 6 _ _ _ hb
  have d7 := cell_of_row w1 n0 7 _ _ _ hb
  have HI := Lib.hid (cinode_any fd hf w1 H1.out)
  clear hw hn hb hf
  dsimp at d0 d1 d2 d3 d4 d5 d6 d7
  go_wp2_with fail
  go_quiet (fail)
  go_wp2
  go_ret2
  exact ⟨rfl, below_drewN HB.out _⟩
set_option maxHeartbeats 4000000 in
set_option maxRecDepth 100000 in
theorem once_close_none (p1 p2 : ByteArray) (fl fd off n : Int) (d : ByteArray) (hf : I64 fd) (hI : inoF S.f fd = 0) (w : World) (h : Ck cb S w0 Ls w) :
    Calls Tryz.prog 48 #[pC cb, .agg #[.int .i64 2, .string p1, .string p2, .int .i64 fl, .int .i64 fd, .int .i64 off, .int .i64 n, .string d]] w fun e w' => e = .returned (.tuple #[.int .i64 16, .bool true]) ∧ Below w.heap.size w w' := by
  have H := Lib.hid h
  clear h
  go_enter Tryz.func48, Tryz.ntmps48
  go_upto_region 1 with fail
  obtain ⟨w1, hw⟩ : ∃ u, u = w.alloc (.cells #[.int .i64 2, .string p1, .string p2, .int .i64 fl, .int .i64 fd, .int .i64 off, .int .i64 n, .string d] 30) := ⟨_, rfl⟩
  obtain ⟨n0, hn⟩ : ∃ u, u = w.heap.size := ⟨_, rfl⟩
  rw [← hw, ← hn]
  have H1 : Hid (Ck cb S w0 ((n0, .cells #[.int .i64 2, .string p1, .string p2, .int .i64 fl, .int .i64 fd, .int .i64 off, .int .i64 n, .string d] 30 (0, 0)) :: Ls) w1) := Lib.hid (by rw [hw, hn]; exact H.out.box _ _)
  have HB : Hid (Below w.heap.size w w1) := Lib.hid (by rw [hw]; exact (Below.refl _ _).alloc (Nat.le_refl _) _)
  have hb := H1.out.get (k := n0) List.mem_cons_self
  have d0 := cell_of_row w1 n0 0 _ _ _ hb
  have d1 := cell_of_row w1 n0 1 _ _ _ hb
  have d2 := cell_of_row w1 n0 2 _ _ _ hb
  have d3 := cell_of_row w1 n0 3 _ _ _ hb
  have d4 := cell_of_row w1 n0 4 _ _ _ hb
  have d5 := cell_of_row w1 n0 5 _ _ _ hb
  have d6 := cell_of_row w1 n0 6 _ _ _ hb
  have d7 := cell_of_row w1 n0 7 _ _ _ hb
  have HI := Lib.hid (cinode_any fd hf w1 H1.out)
  clear hw hn hb hf
  dsimp at d0 d1 d2 d3 d4 d5 d6 d7
  rw [show (if 0 ≤ fd ∧ fd < 8 then S.f fd.toNat else 0) = 0 from hI] at HI
  clear hI
  go_wp2_with ((with_reducible refine HI.out.mono ?_); rintro e wx ⟨rfl, rfl⟩)
  go_ret2
  exact ⟨rfl, HB.out⟩
set_option maxHeartbeats 4000000 in
set_option maxRecDepth 100000 in
theorem once_read_none (p1 p2 : ByteArray) (fl fd off n : Int) (d : ByteArray) (hf : I64 fd) (hI : inoF S.f fd = 0) (w : World) (h : Ck cb S w0 Ls w) :
    Calls Tryz.prog 48 #[pC cb, .agg #[.int .i64 3, .string p1, .string p2, .int .i64 fl, .int .i64 fd, .int .i64 off, .int .i64 n, .string d]] w fun e w' => e = .returned (.tuple #[.int .i64 16, .bool true]) ∧ Below w.heap.size w w' := by
  have H := Lib.hid h
  clear h
  go_enter Tryz.func48, Tryz.ntmps48
  go_upto_region 1 with fail
  obtain ⟨w1, hw⟩ : ∃ u, u = w.alloc (.cells #[.int .i64 3, .string p1, .string p2, .int .i64 fl, .int .i64 fd, .int .i64 off, .int .i64 n, .string d] 30) := ⟨_, rfl⟩
  obtain ⟨n0, hn⟩ : ∃ u, u = w.heap.size := ⟨_, rfl⟩
  rw [← hw, ← hn]
  have H1 : Hid (Ck cb S w0 ((n0, .cells #[.int .i64 3, .string p1, .string p2, .int .i64 fl, .int .i64 fd, .int .i64 off, .int .i64 n, .string d] 30 (0, 0)) :: Ls) w1) := Lib.hid (by rw [hw, hn]; exact H.out.box _ _)
  have HB : Hid (Below w.heap.size w w1) := Lib.hid (by rw [hw]; exact (Below.refl _ _).alloc (Nat.le_refl _) _)
  have hb := H1.out.get (k := n0) List.mem_cons_self
  have d0 := cell_of_row w1 n0 0 _ _ _ hb
  have d1 := cell_of_row w1 n0 1 _ _ _ hb
  have d2 := cell_of_row w1 n0 2 _ _ _ hb
  have d3 := cell_of_row w1 n0 3 _ _ _ hb
  have d4 := cell_of_row w1 n0 4 _ _ _ hb
  have d5 := cell_of_row w1 n0 5 _ _ _ hb
  have d6 := cell_of_row w1 n0 6 _ _ _ hb
  have d7 := cell_of_row w1 n0 7 _ _ _ hb
  have HI := Lib.hid (cinode_any fd hf w1 H1.out)
  clear hw hn hb hf
  dsimp at d0 d1 d2 d3 d4 d5 d6 d7
  rw [show (if 0 ≤ fd ∧ fd < 8 then S.f fd.toNat else 0) = 0 from hI] at HI
  clear hI
  go_wp2_with ((with_reducible refine HI.out.mono ?_); rintro e wx ⟨rfl, rfl⟩)
  go_ret2
  exact ⟨rfl, HB.out⟩
set_option maxHeartbeats 4000000 in
set_option maxRecDepth 100000 in
theorem once_write_none (p1 p2 : ByteArray) (fl fd off n : Int) (d : ByteArray) (hf : I64 fd) (hI : inoF S.f fd = 0) (w : World) (h : Ck cb S w0 Ls w) :
    Calls Tryz.prog 48 #[pC cb, .agg #[.int .i64 4, .string p1, .string p2, .int .i64 fl, .int .i64 fd, .int .i64 off, .int .i64 n, .string d]] w fun e w' => e = .returned (.tuple #[.int .i64 16, .bool true]) ∧ Below w.heap.size w w' := by
  have H := Lib.hid h
  clear h
  go_enter Tryz.func48, Tryz.ntmps48
  go_upto_region 1 with fail
  obtain ⟨w1, hw⟩ : ∃ u, u = w.alloc (.cells #[.int .i64 4, .string p1, .string p2, .int .i64 fl, .int .i64 fd, .int .i64 off, .int .i64 n, .string d] 30) := ⟨_, rfl⟩
  obtain ⟨n0, hn⟩ : ∃ u, u = w.heap.size := ⟨_, rfl⟩
  rw [← hw, ← hn]
  have H1 : Hid (Ck cb S w0 ((n0, .cells #[.int .i64 4, .string p1, .string p2, .int .i64 fl, .int .i64 fd, .int .i64 off, .int .i64 n, .string d] 30 (0, 0)) :: Ls) w1) := Lib.hid (by rw [hw, hn]; exact H.out.box _ _)
  have HB : Hid (Below w.heap.size w w1) := Lib.hid (by rw [hw]; exact (Below.refl _ _).alloc (Nat.le_refl _) _)
  have hb := H1.out.get (k := n0) List.mem_cons_self
  have d0 := cell_of_row w1 n0 0 _ _ _ hb
  have d1 := cell_of_row w1 n0 1 _ _ _ hb
  have d2 := cell_of_row w1 n0 2 _ _ _ hb
  have d3 := cell_of_row w1 n0 3 _ _ _ hb
  have d4 := cell_of_row w1 n0 4 _ _ _ hb
  have d5 := cell_of_row w1 n0 5 _ _ _ hb
  have d6 := cell_of_row w1 n0 6 _ _ _ hb
  have d7 := cell_of_row w1 n0 7 _ _ _ hb
  have HI := Lib.hid (cinode_any fd hf w1 H1.out)
  clear hw hn hb hf
  dsimp at d0 d1 d2 d3 d4 d5 d6 d7
  rw [show (if 0 ≤ fd ∧ fd < 8 then S.f fd.toNat else 0) = 0 from hI] at HI
  clear hI
  go_wp2_with ((with_reducible refine HI.out.mono ?_); rintro e wx ⟨rfl, rfl⟩)
  go_ret2
  exact ⟨rfl, HB.out⟩
set_option maxHeartbeats 4000000 in
set_option maxRecDepth 100000 in
theorem once_trunc_none (p1 p2 : ByteArray) (fl fd off n : Int) (d : ByteArray) (hf : I64 fd) (hI : inoF S.f fd = 0) (w : World) (h : Ck cb S w0 Ls w) :
    Calls Tryz.prog 48 #[pC cb, .agg #[.int .i64 5, .string p1, .string p2, .int .i64 fl, .int .i64 fd, .int .i64 off, .int .i64 n, .string d]] w fun e w' => e = .returned (.tuple #[.int .i64 16, .bool true]) ∧ Below w.heap.size w w' := by
  have H := Lib.hid h
  clear h
  go_enter Tryz.func48, Tryz.ntmps48
  go_upto_region 1 with fail
  obtain ⟨w1, hw⟩ : ∃ u, u = w.alloc (.cells #[.int .i64 5, .string p1, .string p2, .int .i64 fl, .int .i64 fd, .int .i64 off, .int .i64 n, .string d] 30) := ⟨_, rfl⟩
  obtain ⟨n0, hn⟩ : ∃ u, u = w.heap.size := ⟨_, rfl⟩
  rw [← hw, ← hn]
  have H1 : Hid (Ck cb S w0 ((n0, .cells #[.int .i64 5, .string p1, .string p2, .int .i64 fl, .int .i64 fd, .int .i64 off, .int .i64 n, .string d] 30 (0, 0)) :: Ls) w1) := Lib.hid (by rw [hw, hn]; exact H.out.box _ _)
  have HB : Hid (Below w.heap.size w w1) := Lib.hid (by rw [hw]; exact (Below.refl _ _).alloc (Nat.le_refl _) _)
  have hb := H1.out.get (k := n0) List.mem_cons_self
  have d0 := cell_of_row w1 n0 0 _ _ _ hb
  have d1 := cell_of_row w1 n0 1 _ _ _ hb
  have d2 := cell_of_row w1 n0 2 _ _ _ hb
  have d3 := cell_of_row w1 n0 3 _ _ _ hb
  have d4 := cell_of_row w1 n0 4 _ _ _ hb
  have d5 := cell_of_row w1 n0 5 _ _ _ hb
  have d6 := cell_of_row w1 n0 6 _ _ _ hb
  have d7 := cell_of_row w1 n0 7 _ _ _ hb
  have HI := Lib.hid (cinode_any fd hf w1 H1.out)
  clear hw hn hb hf
  dsimp at d0 d1 d2 d3 d4 d5 d6 d7
  rw [show (if 0 ≤ fd ∧ fd < 8 then S.f fd.toNat else 0) = 0 from hI] at HI
  clear hI
  go_wp2_with ((with_reducible refine HI.out.mono ?_); rintro e wx ⟨rfl, rfl⟩)
  go_ret2
  exact ⟨rfl, HB.out⟩
set_option maxHeartbeats 4000000 in
set_option maxRecDepth 100000 in
theorem once_sync_none (p1 p2 : ByteArray) (fl fd off n : Int) (d : ByteArray) (hf : I64 fd) (hI : inoF S.f fd = 0) (w : World) (h : Ck cb S w0 Ls w) :
    Calls Tryz.prog 48 #[pC cb, .agg #[.int .i64 6, .string p1, .string p2, .int .i64 fl, .int .i64 fd, .int .i64 off, .int .i64 n, .string d]] w fun e w' => e = .returned (.tuple #[.int .i64 16, .bool true]) ∧ Below w.heap.size w w' := by
  have H := Lib.hid h
  clear h
  go_enter Tryz.func48, Tryz.ntmps48
  go_upto_region 1 with fail
  obtain ⟨w1, hw⟩ : ∃ u, u = w.alloc (.cells #[.int .i64 6, .string p1, .string p2, .int .i64 fl, .int .i64 fd, .int .i64 off, .int .i64 n, .string d] 30) := ⟨_, rfl⟩
  obtain ⟨n0, hn⟩ : ∃ u, u = w.heap.size := ⟨_, rfl⟩
  rw [← hw, ← hn]
  have H1 : Hid (Ck cb S w0 ((n0, .cells #[.int .i64 6, .string p1, .string p2, .int .i64 fl, .int .i64 fd, .int .i64 off, .int .i64 n, .string d] 30 (0, 0)) :: Ls) w1) := Lib.hid (by rw [hw, hn]; exact H.out.box _ _)
  have HB : Hid (Below w.heap.size w w1) := Lib.hid (by rw [hw]; exact (Below.refl _ _).alloc (Nat.le_refl _) _)
  have hb := H1.out.get (k := n0) List.mem_cons_self
  have d0 := cell_of_row w1 n0 0 _ _ _ hb
  have d1 := cell_of_row w1 n0 1 _ _ _ hb
  have d2 := cell_of_row w1 n0 2 _ _ _ hb
  have d3 := cell_of_row w1 n0 3 _ _ _ hb
  have d4 := cell_of_row w1 n0 4 _ _ _ hb
  have d5 := cell_of_row w1 n0 5 _ _ _ hb
  have d6 := cell_of_row w1 n0 6 _ _ _ hb
  have d7 := cell_of_row w1 n0 7 _ _ _ hb
  have HI := Lib.hid (cinode_any fd hf w1 H1.out)
  clear hw hn hb hf
  dsimp at d0 d1 d2 d3 d4 d5 d6 d7
  rw [show (if 0 ≤ fd ∧ fd < 8 then S.f fd.toNat else 0) = 0 from hI] at HI
  clear hI
  go_wp2_with ((with_reducible refine HI.out.mono ?_); rintro e wx ⟨rfl, rfl⟩)
  go_ret2
  exact ⟨rfl, HB.out⟩
set_option maxHeartbeats 4000000 in
set_option maxRecDepth 100000 in
theorem once_close_ok (p1 p2 : ByteArray) (fl fd off n : Int) (d : ByteArray) (hf : I64 fd) (hI : ¬ inoF S.f fd = 0) (w : World) (h : Ck cb S w0 Ls w) :
    Calls Tryz.prog 48 #[pC cb, .agg #[.int .i64 2, .string p1, .string p2, .int .i64 fl, .int .i64 fd, .int .i64 off, .int .i64 n, .string d]] w fun e w' => e = .returned (.tuple #[.int .i64 0, .bool false]) ∧ Below w.heap.size w w' := by
  have H := Lib.hid h
  clear h
  go_enter Tryz.func48, Tryz.ntmps48
  go_upto_region 1 with fail
  obtain ⟨w1, hw⟩ : ∃ u, u = w.alloc (.cells #[.int .i64 2, .string p1, .string p2, .int .i64 fl, .int .i64 fd, .int .i64 off, .int .i64 n, .string d] 30) := ⟨_, rfl⟩
  obtain ⟨n0, hn⟩ : ∃ u, u = w.heap.size := ⟨_, rfl⟩
  rw [← hw, ← hn]
  have H1 : Hid (Ck cb S w0 ((n0, .cells #[.int .i64 2, .string p1, .string p2, .int .i64 fl, .int .i64 fd, .int .i64 off, .int .i64 n, .string d] 30 (0, 0)) :: Ls) w1) := Lib.hid (by rw [hw, hn]; exact H.out.box _ _)
  have HB : Hid (Below w.heap.size w w1) := Lib.hid (by rw [hw]; exact (Below.refl _ _).alloc (Nat.le_refl _) _)
  have hb := H1.out.get (k := n0) List.mem_cons_self
  have d0 := cell_of_row w1 n0 0 _ _ _ hb
  have d1 := cell_of_row w1 n0 1 _ _ _ hb
  have d2 := cell_of_row w1 n0 2 _ _ _ hb
  have d3 := cell_of_row w1 n0 3 _ _ _ hb
  have d4 := cell_of_row w1 n0 4 _ _ _ hb
  have d5 := cell_of_row w1 n0 5 _ _ _ hb
  have d6 := cell_of_row w1 n0 6 _ _ _ hb
  have d7 := cell_of_row w1 n0 7 _ _ _ hb
  have HI := Lib.hid (cinode_any fd hf w1 H1.out)
  clear hw hn hb hf
  dsimp at d0 d1 d2 d3 d4 d5 d6 d7
  obtain ⟨iv, hiv⟩ : ∃ iv, iv = inoF S.f fd := ⟨_, rfl⟩
  rw [show (if 0 ≤ fd ∧ fd < 8 then S.f fd.toNat else 0) = iv from hiv.symm] at HI
  rw [← hiv] at hI
  have hI2 : (iv == 0) = false := by simpa using hI
  clear hiv hI
  go_wp2_with ((with_reducible refine HI.out.mono ?_); rintro e wx ⟨rfl, rfl⟩)
  go_quiet (fail)
  go_wp2
  go_ret2
  exact ⟨rfl, below_drewN HB.out _⟩
set_option maxHeartbeats 4000000 in
set_option maxRecDepth 100000 in
theorem once_sync_ok (p1 p2 : ByteArray) (fl fd off n : Int) (d : ByteArray) (hf : I64 fd) (hI : ¬ inoF S.f fd = 0) (w : World) (h : Ck cb S w0 Ls w) :
    Calls Tryz.prog 48 #[pC cb, .agg #[.int .i64 6, .string p1, .string p2, .int .i64 fl, .int .i64 fd, .int .i64 off, .int .i64 n, .string d]] w fun e w' => e = .returned (.tuple #[.int .i64 0, .bool true]) ∧ Below w.heap.size w w' := by
  have H := Lib.hid h
  clear h
  go_enter Tryz.func48, Tryz.ntmps48
  go_upto_region 1 with fail
  obtain ⟨w1, hw⟩ : ∃ u, u = w.alloc (.cells #[.int .i64 6, .string p1, .string p2, .int .i64 fl, .int .i64 fd, .int .i64 off, .int .i64 n, .string d] 30) := ⟨_, rfl⟩
  obtain ⟨n0, hn⟩ : ∃ u, u = w.heap.size := ⟨_, rfl⟩
  rw [← hw, ← hn]
  have H1 : Hid (Ck cb S w0 ((n0, .cells #[.int .i64 6, .string p1, .string p2, .int .i64 fl, .int .i64 fd, .int .i64 off, .int .i64 n, .string d] 30 (0, 0)) :: Ls) w1) := Lib.hid (by rw [hw, hn]; exact H.out.box _ _)
  have HB : Hid (Below w.heap.size w w1) := Lib.hid (by rw [hw]; exact (Below.refl _ _).alloc (Nat.le_refl _) _)
  have hb := H1.out.get (k := n0) List.mem_cons_self
  have d0 := cell_of_row w1 n0 0 _ _ _ hb
  have d1 := cell_of_row w1 n0 1 _ _ _ hb
  have d2 := cell_of_row w1 n0 2 _ _ _ hb
  have d3 := cell_of_row w1 n0 3 _ _ _ hb
  have d4 := cell_of_row w1 n0 4 _ _ _ hb
  have d5 := cell_of_row w1 n0 5 _ _ _ hb
  have d6 := cell_of_row w1 n0 6 _ _ _ hb
  have d7 := cell_of_row w1 n0 7 _ _ _ hb
  have HI := Lib.hid (cinode_any fd hf w1 H1.out)
  clear hw hn hb hf
  dsimp at d0 d1 d2 d3 d4 d5 d6 d7
  obtain ⟨iv, hiv⟩ : ∃ iv, iv = inoF S.f fd := ⟨_, rfl⟩
  rw [show (if 0 ≤ fd ∧ fd < 8 then S.f fd.toNat else 0) = iv from hiv.symm] at HI
  rw [← hiv] at hI
  have hI2 : (iv == 0) = false := by simpa using hI
  clear hiv hI
  go_wp2_with ((with_reducible refine HI.out.mono ?_); rintro e wx ⟨rfl, rfl⟩)
  go_quiet (fail)
  go_wp2
  go_ret2
  exact ⟨rfl, below_drewN HB.out _⟩
set_option maxHeartbeats 4000000 in
set_option maxRecDepth 100000 in
theorem once_read_off (p1 p2 : ByteArray) (fl fd off n : Int) (d : ByteArray) (hf : I64 fd) (hI : ¬ inoF S.f fd = 0) (hc : off < 0) (w : World) (h : Ck cb S w0 Ls w) :
    Calls Tryz.prog 48 #[pC cb, .agg #[.int .i64 3, .string p1, .string p2, .int .i64 fl, .int .i64 fd, .int .i64 off, .int .i64 n, .string d]] w fun e w' => e = .returned (.tuple #[.int .i64 15, .bool true]) ∧ Below w.heap.size w w' := by
  have H := Lib.hid h
  clear h
  go_enter Tryz.func48, Tryz.ntmps48
  go_upto_region 1 with fail
  obtain ⟨w1, hw⟩ : ∃ u, u = w.alloc (.cells #[.int .i64 3, .string p1, .string p2, .int .i64 fl, .int .i64 fd, .int .i64 off, .int .i64 n, .string d] 30) := ⟨_, rfl⟩
  obtain ⟨n0, hn⟩ : ∃ u, u = w.heap.size := ⟨_, rfl⟩
  rw [← hw, ← hn]
  have H1 : Hid (Ck cb S w0 ((n0, .cells #[.int .i64 3, .string p1, .string p2, .int .i64 fl, .int .i64 fd, .int .i64 off, .int .i64 n, .string d] 30 (0, 0)) :: Ls) w1) := Lib.hid (by rw [hw, hn]; exact H.out.box _ _)
  have HB : Hid (Below w.heap.size w w1) := Lib.hid (by rw [hw]; exact (Below.refl _ _).alloc (Nat.le_refl _) _)
  have hb := H1.out.get (k := n0) List.mem_cons_self
  have d0 := cell_of_row w1 n0 0 _ _ _ hb
  have d1 := cell_of_row w1 n0 1 _ _ _ hb
  have d2 := cell_of_row w1 n0 2 _ _ _ hb
  have d3 := cell_of_row w1 n0 3 _ _ _ hb
  have d4 := cell_of_row w1 n0 4 _ _ _ hb
  have d5 := cell_of_row w1 n0 5 _ _ _ hb
  have d6 := cell_of_row w1 n0 6 _ _ _ hb
  have d7 := cell_of_row w1 n0 7 _ _ _ hb
  have HI := Lib.hid (cinode_any fd hf w1 H1.out)
  clear hw hn hb hf
  dsimp at d0 d1 d2 d3 d4 d5 d6 d7
  obtain ⟨iv, hiv⟩ : ∃ iv, iv = inoF S.f fd := ⟨_, rfl⟩
  rw [show (if 0 ≤ fd ∧ fd < 8 then S.f fd.toNat else 0) = iv from hiv.symm] at HI
  rw [← hiv] at hI
  have hI2 : (iv == 0) = false := by simpa using hI
  clear hiv hI
  go_wp2_with ((with_reducible refine HI.out.mono ?_); rintro e wx ⟨rfl, rfl⟩)
  go_quiet (fail)
  go_wp2
  go_ret2
  exact ⟨rfl, below_drewN HB.out _⟩
set_option maxHeartbeats 4000000 in
set_option maxRecDepth 100000 in
theorem once_read_neg (p1 p2 : ByteArray) (fl fd off n : Int) (d : ByteArray) (hf : I64 fd) (hI : ¬ inoF S.f fd = 0) (hc : ¬ off < 0) (hd : n < 0) (w : World) (h : Ck cb S w0 Ls w) :
    Calls Tryz.prog 48 #[pC cb, .agg #[.int .i64 3, .string p1, .string p2, .int .i64 fl, .int .i64 fd, .int .i64 off, .int .i64 n, .string d]] w fun e w' => e = .returned (.tuple #[.int .i64 15, .bool true]) ∧ Below w.heap.size w w' := by
  have H := Lib.hid h
  clear h
  go_enter Tryz.func48, Tryz.ntmps48
  go_upto_region 1 with fail
  obtain ⟨w1, hw⟩ : ∃ u, u = w.alloc (.cells #[.int .i64 3, .string p1, .string p2, .int .i64 fl, .int .i64 fd, .int .i64 off, .int .i64 n, .string d] 30) := ⟨_, rfl⟩
  obtain ⟨n0, hn⟩ : ∃ u, u = w.heap.size := ⟨_, rfl⟩
  rw [← hw, ← hn]
  have H1 : Hid (Ck cb S w0 ((n0, .cells #[.int .i64 3, .string p1, .string p2, .int .i64 fl, .int .i64 fd, .int .i64 off, .int .i64 n, .string d] 30 (0, 0)) :: Ls) w1) := Lib.hid (by rw [hw, hn]; exact H.out.box _ _)
  have HB : Hid (Below w.heap.size w w1) := Lib.hid (by rw [hw]; exact (Below.refl _ _).alloc (Nat.le_refl _) _)
  have hb := H1.out.get (k := n0) List.mem_cons_self
  have d0 := cell_of_row w1 n0 0 _ _ _ hb
  have d1 := cell_of_row w1 n0 1 _ _ _ hb
  have d2 := cell_of_row w1 n0 2 _ _ _ hb
  have d3 := cell_of_row w1 n0 3 _ _ _ hb
  have d4 := cell_of_row w1 n0 4 _ _ _ hb
  have d5 := cell_of_row w1 n0 5 _ _ _ hb
  have d6 := cell_of_row w1 n0 6 _ _ _ hb
  have d7 := cell_of_row w1 n0 7 _ _ _ hb
  have HI := Lib.hid (cinode_any fd hf w1 H1.out)
  clear hw hn hb hf
  dsimp at d0 d1 d2 d3 d4 d5 d6 d7
  obtain ⟨iv, hiv⟩ : ∃ iv, iv = inoF S.f fd := ⟨_, rfl⟩
  rw [show (if 0 ≤ fd ∧ fd < 8 then S.f fd.toNat else 0) = iv from hiv.symm] at HI
  rw [← hiv] at hI
  have hI2 : (iv == 0) = false := by simpa using hI
  clear hiv hI
  go_wp2_with ((with_reducible refine HI.out.mono ?_); rintro e wx ⟨rfl, rfl⟩)
  go_quiet (fail)
  go_wp2
  go_ret2
  exact ⟨rfl, below_drewN HB.out _⟩
set_option maxHeartbeats 4000000 in
set_option maxRecDepth 100000 in
theorem once_read_ok (p1 p2 : ByteArray) (fl fd off n : Int) (d : ByteArray) (hf : I64 fd) (hI : ¬ inoF S.f fd = 0) (hc : ¬ off < 0) (hd : ¬ n < 0) (w : World) (h : Ck cb S w0 Ls w) :
    Calls Tryz.prog 48 #[pC cb, .agg #[.int .i64 3, .string p1, .string p2, .int .i64 fl, .int .i64 fd, .int .i64 off, .int .i64 n, .string d]] w fun e w' => e = .returned (.tuple #[.int .i64 15, .bool (decide (64 < n))]) ∧ Below w.heap.size w w' := by
  have H := Lib.hid h
  clear h
  have hcf : decide (off < 0) = false := by simpa using hc
  have hdf : decide (n < 0) = false := by simpa using hd
  go_enter Tryz.func48, Tryz.ntmps48
  go_upto_region 1 with fail
  obtain ⟨w1, hw⟩ : ∃ u, u = w.alloc (.cells #[.int .i64 3, .string p1, .string p2, .int .i64 fl, .int .i64 fd, .int .i64 off, .int .i64 n, .string d] 30) := ⟨_, rfl⟩
  obtain ⟨n0, hn⟩ : ∃ u, u = w.heap.size := ⟨_, rfl⟩
  rw [← hw, ← hn]
  have H1 : Hid (Ck cb S w0 ((n0, .cells #[.int .i64 3, .string p1, .string p2, .int .i64 fl, .int .i64 fd, .int .i64 off, .int .i64 n, .string d] 30 (0, 0)) :: Ls) w1) := Lib.hid (by rw [hw, hn]; exact H.out.box _ _)
  have HB : Hid (Below w.heap.size w w1) := Lib.hid (by rw [hw]; exact (Below.refl _ _).alloc (Nat.le_refl _) _)
  have hb := H1.out.get (k := n0) List.mem_cons_self
  have d0 := cell_of_row w1 n0 0 _ _ _ hb
  have d1 := cell_of_row w1 n0 1 _ _ _ hb
  have d2 := cell_of_row w1 n0 2 _ _ _ hb
  have d3 := cell_of_row w1 n0 3 _ _ _ hb
  have d4 := cell_of_row w1 n0 4 _ _ _ hb
  have d5 := cell_of_row w1 n0 5 _ _ _ hb
  have d6 := cell_of_row w1 n0 6 _ _ _ hb
  have d7 := cell_of_row w1 n0 7 _ _ _ hb
  have HI := Lib.hid (cinode_any fd hf w1 H1.out)
  clear hw hn hb hf
  dsimp at d0 d1 d2 d3 d4 d5 d6 d7
  obtain ⟨iv, hiv⟩ : ∃ iv, iv = inoF S.f fd := ⟨_, rfl⟩
  rw [show (if 0 ≤ fd ∧ fd < 8 then S.f fd.toNat else 0) = iv from hiv.symm] at HI
  rw [← hiv] at hI
  have hI2 : (iv == 0) = false := by simpa using hI
  clear hiv hI
  go_wp2_with ((with_reducible refine HI.out.mono ?_); rintro e wx ⟨rfl, rfl⟩)
  go_quiet (fail)
  go_wp2
  go_ret2
  exact ⟨rfl, below_drewN HB.out _⟩
set_option maxHeartbeats 4000000 in
set_option maxRecDepth 100000 in
theorem once_write_off (p1 p2 : ByteArray) (fl fd off n : Int) (d : ByteArray) (hf : I64 fd) (hI : ¬ inoF S.f fd = 0) (hc : off < 0) (w : World) (h : Ck cb S w0 Ls w) :
    Calls Tryz.prog 48 #[pC cb, .agg #[.int .i64 4, .string p1, .string p2, .int .i64 fl, .int .i64 fd, .int .i64 off, .int .i64 n, .string d]] w fun e w' => e = .returned (.tuple #[.int .i64 15, .bool true]) ∧ Below w.heap.size w w' := by
  have H := Lib.hid h
  clear h
  go_enter Tryz.func48, Tryz.ntmps48
  go_upto_region 1 with fail
  obtain ⟨w1, hw⟩ : ∃ u, u = w.alloc (.cells #[.int .i64 4, .string p1, .string p2, .int .i64 fl, .int .i64 fd, .int .i64 off, .int .i64 n, .string d] 30) := ⟨_, rfl⟩
  obtain ⟨n0, hn⟩ : ∃ u, u = w.heap.size := ⟨_, rfl⟩
  rw [← hw, ← hn]
  have H1 : Hid (Ck cb S w0 ((n0, .cells #[.int .i64 4, .string p1, .string p2, .int .i64 fl, .int .i64 fd, .int .i64 off, .int .i64 n, .string d] 30 (0, 0)) :: Ls) w1) := Lib.hid (by rw [hw, hn]; exact H.out.box _ _)
  have HB : Hid (Below w.heap.size w w1) := Lib.hid (by rw [hw]; exact (Below.refl _ _).alloc (Nat.le_refl _) _)
  have hb := H1.out.get (k := n0) List.mem_cons_self
  have d0 := cell_of_row w1 n0 0 _ _ _ hb
  have d1 := cell_of_row w1 n0 1 _ _ _ hb
  have d2 := cell_of_row w1 n0 2 _ _ _ hb
  have d3 := cell_of_row w1 n0 3 _ _ _ hb
  have d4 := cell_of_row w1 n0 4 _ _ _ hb
  have d5 := cell_of_row w1 n0 5 _ _ _ hb
  have d6 := cell_of_row w1 n0 6 _ _ _ hb
  have d7 := cell_of_row w1 n0 7 _ _ _ hb
  have HI := Lib.hid (cinode_any fd hf w1 H1.out)
  clear hw hn hb hf
  dsimp at d0 d1 d2 d3 d4 d5 d6 d7
  obtain ⟨iv, hiv⟩ : ∃ iv, iv = inoF S.f fd := ⟨_, rfl⟩
  rw [show (if 0 ≤ fd ∧ fd < 8 then S.f fd.toNat else 0) = iv from hiv.symm] at HI
  rw [← hiv] at hI
  have hI2 : (iv == 0) = false := by simpa using hI
  clear hiv hI
  go_wp2_with ((with_reducible refine HI.out.mono ?_); rintro e wx ⟨rfl, rfl⟩)
  go_ret2
  exact ⟨rfl, HB.out⟩
set_option maxHeartbeats 4000000 in
set_option maxRecDepth 100000 in
theorem once_write_big (p1 p2 : ByteArray) (fl fd off n : Int) (d : ByteArray) (hf : I64 fd) (hI : ¬ inoF S.f fd = 0) (hc : ¬ off < 0) (hd : (64 : Int) < d.size) (w : World) (h : Ck cb S w0 Ls w) :
    Calls Tryz.prog 48 #[pC cb, .agg #[.int .i64 4, .string p1, .string p2, .int .i64 fl, .int .i64 fd, .int .i64 off, .int .i64 n, .string d]] w fun e w' => e = .returned (.tuple #[.int .i64 15, .bool true]) ∧ Below w.heap.size w w' := by
  have H := Lib.hid h
  clear h
  go_enter Tryz.func48, Tryz.ntmps48
  go_upto_region 1 with fail
  obtain ⟨w1, hw⟩ : ∃ u, u = w.alloc (.cells #[.int .i64 4, .string p1, .string p2, .int .i64 fl, .int .i64 fd, .int .i64 off, .int .i64 n, .string d] 30) := ⟨_, rfl⟩
  obtain ⟨n0, hn⟩ : ∃ u, u = w.heap.size := ⟨_, rfl⟩
  rw [← hw, ← hn]
  have H1 : Hid (Ck cb S w0 ((n0, .cells #[.int .i64 4, .string p1, .string p2, .int .i64 fl, .int .i64 fd, .int .i64 off, .int .i64 n, .string d] 30 (0, 0)) :: Ls) w1) := Lib.hid (by rw [hw, hn]; exact H.out.box _ _)
  have HB : Hid (Below w.heap.size w w1) := Lib.hid (by rw [hw]; exact (Below.refl _ _).alloc (Nat.le_refl _) _)
  have hb := H1.out.get (k := n0) List.mem_cons_self
  have d0 := cell_of_row w1 n0 0 _ _ _ hb
  have d1 := cell_of_row w1 n0 1 _ _ _ hb
  have d2 := cell_of_row w1 n0 2 _ _ _ hb
  have d3 := cell_of_row w1 n0 3 _ _ _ hb
  have d4 := cell_of_row w1 n0 4 _ _ _ hb
  have d5 := cell_of_row w1 n0 5 _ _ _ hb
  have d6 := cell_of_row w1 n0 6 _ _ _ hb
  have d7 := cell_of_row w1 n0 7 _ _ _ hb
  have HI := Lib.hid (cinode_any fd hf w1 H1.out)
  clear hw hn hb hf
  dsimp at d0 d1 d2 d3 d4 d5 d6 d7
  obtain ⟨iv, hiv⟩ : ∃ iv, iv = inoF S.f fd := ⟨_, rfl⟩
  rw [show (if 0 ≤ fd ∧ fd < 8 then S.f fd.toNat else 0) = iv from hiv.symm] at HI
  rw [← hiv] at hI
  have hI2 : (iv == 0) = false := by simpa using hI
  clear hiv hI
  go_wp2_with ((with_reducible refine HI.out.mono ?_); rintro e wx ⟨rfl, rfl⟩)
  go_ret2
  exact ⟨rfl, HB.out⟩
set_option maxHeartbeats 4000000 in
set_option maxRecDepth 100000 in
theorem once_write_nil (p1 p2 : ByteArray) (fl fd off n : Int) (d : ByteArray) (hf : I64 fd) (hI : ¬ inoF S.f fd = 0) (hc : ¬ off < 0) (hd : ¬ (64 : Int) < d.size) (hz : d.toList.isEmpty = true) (w : World) (h : Ck cb S w0 Ls w) :
    Calls Tryz.prog 48 #[pC cb, .agg #[.int .i64 4, .string p1, .string p2, .int .i64 fl, .int .i64 fd, .int .i64 off, .int .i64 n, .string d]] w fun e w' => e = .returned (.tuple #[.int .i64 0, .bool true]) ∧ Below w.heap.size w w' := by
  have H := Lib.hid h
  clear h
  go_enter Tryz.func48, Tryz.ntmps48
  go_upto_region 1 with fail
  obtain ⟨w1, hw⟩ : ∃ u, u = w.alloc (.cells #[.int .i64 4, .string p1, .string p2, .int .i64 fl, .int .i64 fd, .int .i64 off, .int .i64 n, .string d] 30) := ⟨_, rfl⟩
  obtain ⟨n0, hn⟩ : ∃ u, u = w.heap.size := ⟨_, rfl⟩
  rw [← hw, ← hn]
  have H1 : Hid (Ck cb S w0 ((n0, .cells #[.int .i64 4, .string p1, .string p2, .int .i64 fl, .int .i64 fd, .int .i64 off, .int .i64 n, .string d] 30 (0, 0)) :: Ls) w1) := Lib.hid (by rw [hw, hn]; exact H.out.box _ _)
  have HB : Hid (Below w.heap.size w w1) := Lib.hid (by rw [hw]; exact (Below.refl _ _).alloc (Nat.le_refl _) _)
  have hb := H1.out.get (k := n0) List.mem_cons_self
  have d0 := cell_of_row w1 n0 0 _ _ _ hb
  have d1 := cell_of_row w1 n0 1 _ _ _ hb
  have d2 := cell_of_row w1 n0 2 _ _ _ hb
  have d3 := cell_of_row w1 n0 3 _ _ _ hb
  have d4 := cell_of_row w1 n0 4 _ _ _ hb
  have d5 := cell_of_row w1 n0 5 _ _ _ hb
  have d6 := cell_of_row w1 n0 6 _ _ _ hb
  have d7 := cell_of_row w1 n0 7 _ _ _ hb
  have HI := Lib.hid (cinode_any fd hf w1 H1.out)
  clear hw hn hb hf
  dsimp at d0 d1 d2 d3 d4 d5 d6 d7
  obtain ⟨iv, hiv⟩ : ∃ iv, iv = inoF S.f fd := ⟨_, rfl⟩
  rw [show (if 0 ≤ fd ∧ fd < 8 then S.f fd.toNat else 0) = iv from hiv.symm] at HI
  rw [← hiv] at hI
  have hI2 : (iv == 0) = false := by simpa using hI
  clear hiv hI
  go_wp2_with ((with_reducible refine HI.out.mono ?_); rintro e wx ⟨rfl, rfl⟩)
  go_ret2
  exact ⟨rfl, HB.out⟩
set_option maxHeartbeats 4000000 in
set_option maxRecDepth 100000 in
theorem once_write_ok (p1 p2 : ByteArray) (fl fd off n : Int) (d : ByteArray) (hf : I64 fd) (hI : ¬ inoF S.f fd = 0) (hc : ¬ off < 0) (hd : ¬ (64 : Int) < d.size) (hz : d.toList.isEmpty = false) (w : World) (h : Ck cb S w0 Ls w) :
    Calls Tryz.prog 48 #[pC cb, .agg #[.int .i64 4, .string p1, .string p2, .int .i64 fl, .int .i64 fd, .int .i64 off, .int .i64 n, .string d]] w fun e w' => e = .returned (.tuple #[.int .i64 19, .bool (decide (256 - (d.size : Int) < off))]) ∧ Below w.heap.size w w' := by
  have H := Lib.hid h
  clear h
  have hsb : IntKind.i64.wrap (256 - (d.size : Int)) = 256 - (d.size : Int) := IntWalk.i64_in _ (by omega)
  go_enter Tryz.func48, Tryz.ntmps48
  go_upto_region 1 with fail
  obtain ⟨w1, hw⟩ : ∃ u, u = w.alloc (.cells #[.int .i64 4, .string p1, .string p2, .int .i64 fl, .int .i64 fd, .int .i64 off, .int .i64 n, .string d] 30) := ⟨_, rfl⟩
  obtain ⟨n0, hn⟩ : ∃ u, u = w.heap.size := ⟨_, rfl⟩
  rw [← hw, ← hn]
  have H1 : Hid (Ck cb S w0 ((n0, .cells #[.int .i64 4, .string p1, .string p2, .int .i64 fl, .int .i64 fd, .int .i64 off, .int .i64 n, .string d] 30 (0, 0)) :: Ls) w1) := Lib.hid (by rw [hw, hn]; exact H.out.box _ _)
  have HB : Hid (Below w.heap.size w w1) := Lib.hid (by rw [hw]; exact (Below.refl _ _).alloc (Nat.le_refl _) _)
  have hb := H1.out.get (k := n0) List.mem_cons_self
  have d0 := cell_of_row w1 n0 0 _ _ _ hb
  have d1 := cell_of_row w1 n0 1 _ _ _ hb
  have d2 := cell_of_row w1 n0 2 _ _ _ hb
  have d3 := cell_of_row w1 n0 3 _ _ _ hb
  have d4 := cell_of_row w1 n0 4 _ _ _ hb
  have d5 := cell_of_row w1 n0 5 _ _ _ hb
  have d6 := cell_of_row w1 n0 6 _ _ _ hb
  have d7 := cell_of_row w1 n0 7 _ _ _ hb
  have HI := Lib.hid (cinode_any fd hf w1 H1.out)
  clear hw hn hb hf
  dsimp at d0 d1 d2 d3 d4 d5 d6 d7
  obtain ⟨iv, hiv⟩ : ∃ iv, iv = inoF S.f fd := ⟨_, rfl⟩
  rw [show (if 0 ≤ fd ∧ fd < 8 then S.f fd.toNat else 0) = iv from hiv.symm] at HI
  rw [← hiv] at hI
  have hI2 : (iv == 0) = false := by simpa using hI
  clear hiv hI
  go_wp2_with ((with_reducible refine HI.out.mono ?_); rintro e wx ⟨rfl, rfl⟩)
  go_quiet (fail)
  go_wp2
  go_ret2
  exact ⟨rfl, below_drewN HB.out _⟩
set_option maxHeartbeats 4000000 in
set_option maxRecDepth 100000 in
theorem once_trunc_neg (p1 p2 : ByteArray) (fl fd off n : Int) (d : ByteArray) (hf : I64 fd) (hI : ¬ inoF S.f fd = 0) (hd : n < 0) (w : World) (h : Ck cb S w0 Ls w) :
    Calls Tryz.prog 48 #[pC cb, .agg #[.int .i64 5, .string p1, .string p2, .int .i64 fl, .int .i64 fd, .int .i64 off, .int .i64 n, .string d]] w fun e w' => e = .returned (.tuple #[.int .i64 15, .bool true]) ∧ Below w.heap.size w w' := by
  have H := Lib.hid h
  clear h
  go_enter Tryz.func48, Tryz.ntmps48
  go_upto_region 1 with fail
  obtain ⟨w1, hw⟩ : ∃ u, u = w.alloc (.cells #[.int .i64 5, .string p1, .string p2, .int .i64 fl, .int .i64 fd, .int .i64 off, .int .i64 n, .string d] 30) := ⟨_, rfl⟩
  obtain ⟨n0, hn⟩ : ∃ u, u = w.heap.size := ⟨_, rfl⟩
  rw [← hw, ← hn]
  have H1 : Hid (Ck cb S w0 ((n0, .cells #[.int .i64 5, .string p1, .string p2, .int .i64 fl, .int .i64 fd, .int .i64 off, .int .i64 n, .string d] 30 (0, 0)) :: Ls) w1) := Lib.hid (by rw [hw, hn]; exact H.out.box _ _)
  have HB : Hid (Below w.heap.size w w1) := Lib.hid (by rw [hw]; exact (Below.refl _ _).alloc (Nat.le_refl _) _)
  have hb := H1.out.get (k := n0) List.mem_cons_self
  have d0 := cell_of_row w1 n0 0 _ _ _ hb
  have d1 := cell_of_row w1 n0 1 _ _ _ hb
  have d2 := cell_of_row w1 n0 2 _ _ _ hb
  have d3 := cell_of_row w1 n0 3 _ _ _ hb
  have d4 := cell_of_row w1 n0 4 _ _ _ hb
  have d5 := cell_of_row w1 n0 5 _ _ _ hb
  have d6 := cell_of_row w1 n0 6 _ _ _ hb
  have d7 := cell_of_row w1 n0 7 _ _ _ hb
  have HI := Lib.hid (cinode_any fd hf w1 H1.out)
  clear hw hn hb hf
  dsimp at d0 d1 d2 d3 d4 d5 d6 d7
  obtain ⟨iv, hiv⟩ : ∃ iv, iv = inoF S.f fd := ⟨_, rfl⟩
  rw [show (if 0 ≤ fd ∧ fd < 8 then S.f fd.toNat else 0) = iv from hiv.symm] at HI
  rw [← hiv] at hI
  have hI2 : (iv == 0) = false := by simpa using hI
  clear hiv hI
  go_wp2_with ((with_reducible refine HI.out.mono ?_); rintro e wx ⟨rfl, rfl⟩)
  go_ret2
  exact ⟨rfl, HB.out⟩
set_option maxHeartbeats 4000000 in
set_option maxRecDepth 100000 in
theorem once_trunc_ok (p1 p2 : ByteArray) (fl fd off n : Int) (d : ByteArray) (hf : I64 fd) (hI : ¬ inoF S.f fd = 0) (hd : ¬ n < 0) (w : World) (h : Ck cb S w0 Ls w) :
    Calls Tryz.prog 48 #[pC cb, .agg #[.int .i64 5, .string p1, .string p2, .int .i64 fl, .int .i64 fd, .int .i64 off, .int .i64 n, .string d]] w fun e w' => e = .returned (.tuple #[.int .i64 19, .bool (decide (256 < n))]) ∧ Below w.heap.size w w' := by
  have H := Lib.hid h
  clear h
  go_enter Tryz.func48, Tryz.ntmps48
  go_upto_region 1 with fail
  obtain ⟨w1, hw⟩ : ∃ u, u = w.alloc (.cells #[.int .i64 5, .string p1, .string p2, .int .i64 fl, .int .i64 fd, .int .i64 off, .int .i64 n, .string d] 30) := ⟨_, rfl⟩
  obtain ⟨n0, hn⟩ : ∃ u, u = w.heap.size := ⟨_, rfl⟩
  rw [← hw, ← hn]
  have H1 : Hid (Ck cb S w0 ((n0, .cells #[.int .i64 5, .string p1, .string p2, .int .i64 fl, .int .i64 fd, .int .i64 off, .int .i64 n, .string d] 30 (0, 0)) :: Ls) w1) := Lib.hid (by rw [hw, hn]; exact H.out.box _ _)
  have HB : Hid (Below w.heap.size w w1) := Lib.hid (by rw [hw]; exact (Below.refl _ _).alloc (Nat.le_refl _) _)
  have hb := H1.out.get (k := n0) List.mem_cons_self
  have d0 := cell_of_row w1 n0 0 _ _ _ hb
  have d1 := cell_of_row w1 n0 1 _ _ _ hb
  have d2 := cell_of_row w1 n0 2 _ _ _ hb
  have d3 := cell_of_row w1 n0 3 _ _ _ hb
  have d4 := cell_of_row w1 n0 4 _ _ _ hb
  have d5 := cell_of_row w1 n0 5 _ _ _ hb
  have d6 := cell_of_row w1 n0 6 _ _ _ hb
  have d7 := cell_of_row w1 n0 7 _ _ _ hb
  have HI := Lib.hid (cinode_any fd hf w1 H1.out)
  clear hw hn hb hf
  dsimp at d0 d1 d2 d3 d4 d5 d6 d7
  obtain ⟨iv, hiv⟩ : ∃ iv, iv = inoF S.f fd := ⟨_, rfl⟩
  rw [show (if 0 ≤ fd ∧ fd < 8 then S.f fd.toNat else 0) = iv from hiv.symm] at HI
  rw [← hiv] at hI
  have hI2 : (iv == 0) = false := by simpa using hI
  clear hiv hI
  go_wp2_with ((with_reducible refine HI.out.mono ?_); rintro e wx ⟨rfl, rfl⟩)
  go_quiet (fail)
  go_wp2
  go_ret2
  exact ⟨rfl, below_drewN HB.out _⟩
end
end Go.Proofs.YtiinponoeaihcaaGreat
