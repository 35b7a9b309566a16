/- Walks: the program's find, place, free, sized, both, over. -/
import Derived.Test.YtbpejjmfdhkfhaaGreatDoorPosRealA
import Derived.Test.YtbpejjmfdhkfhaaGreatDoorPosRefD
import Derived.Test.YtbpejjmfdhkfhaaGreatDoorPosRefL
set_option linter.unusedVariables false
set_option linter.unusedSimpArgs false
namespace Go.Proofs.YtbpejjmfdhkfhaaGreatDoor
open Go.RowKit

theorem names_len {p : List UInt8} {L : List (List UInt8)} (h : Np.pathL p = some L) : ∀ x ∈ L, x.length ≤ 1000 := fun x hx => Nat.le_trans (nameB_len ((pathL_names h).2 x hx)) (by decide)

set_option maxHeartbeats 2000000 in
set_option maxRecDepth 8192 in
theorem ffind_any [Inhabited XBox] (F : Nat → Prop) (r bo : Nat) (β μ : Nat → Nat) (S : Pz.Fil) (s : ByteArray) (w : World) (hs : s.size ≤ 100000) (hO : Pz.Ok S) (hR : RealAt w F r bo β μ S) :
    Calls Tryz.prog 52 #[.pointer (some ⟨r, 0, none⟩), .string s] w fun e w' => e = .returned (toW β (Pz.find S s.data.toList)) ∧ Below w.heap.size w w' := by
  unfold Pz.find
  have HR := Lib.hid hR
  cases hG : Np.pathL s.data.toList with
  | none =>
    have h1 := fun W (h : Mx W) => pathN s W hs h hG
    have H1 := Lib.hid h1
    clear h1 hG hO hR
    show Calls _ _ _ _ fun e w' => e = .returned (.tuple #[.pointer none, .int .i64 15]) ∧ _
    go_enter Tryz.func52, Tryz.ntmps52
    go_wp2_with fail
    refine (H1.out _ HR.out.mx.1).mono ?_
    rintro e w1 ⟨rfl, hb1⟩
    go_wp2
    go_ret2
    exact ⟨rfl, hb1⟩
  | some L =>
    have h1 := fun W (h : Mx W) => pathY s L W hs h hG
    have hl6 := (pathL_names hG).1
    have h2 := fun A c B' W hR hS => fwalk_any F r bo β μ S A L c B' W hO (by omega) (names_len hG) hR hS
    have H1 := Lib.hid h1
    have H2 := Lib.hid h2
    clear h1 h2 hG hO hR
    show Calls _ _ _ _ fun e w' => e = .returned (toW β (Pz.walk S 0 L)) ∧ _
    obtain ⟨R, hRv⟩ : ∃ R, R = Pz.walk S 0 L := ⟨_, rfl⟩
    rw [← hRv] at H2 ⊢
    clear hRv
    cases R with
    | ok m =>
      simp only [toW] at H2 ⊢
      go_enter Tryz.func52, Tryz.ntmps52
      go_wp2_with fail
      refine (H1.out _ HR.out.mx.1).mono ?_
      rintro e w1 ⟨A, c, rfl, hc, hS, hb1⟩
      have HS := Lib.hid hS
      clear hS
      go_wp2_with fail
      refine (H2.out _ _ _ _ ((RealAt.held r bo β μ S).below HR.out hb1) HS.out).mono ?_
      rintro e w2 ⟨rfl, hb2⟩
      go_wp2
      go_ret2
      exact ⟨rfl, hb1.trans (hb2.mono hb1.size)⟩
    | error v =>
      simp only [toW] at H2 ⊢
      go_enter Tryz.func52, Tryz.ntmps52
      go_wp2_with fail
      refine (H1.out _ HR.out.mx.1).mono ?_
      rintro e w1 ⟨A, c, rfl, hc, hS, hb1⟩
      have HS := Lib.hid hS
      clear hS
      go_wp2_with fail
      refine (H2.out _ _ _ _ ((RealAt.held r bo β μ S).below HR.out hb1) HS.out).mono ?_
      rintro e w2 ⟨rfl, hb2⟩
      go_wp2
      go_ret2
      exact ⟨rfl, hb1.trans (hb2.mono hb1.size)⟩

set_option maxHeartbeats 4000000 in
set_option maxRecDepth 8192 in
theorem fplace_any [Inhabited XBox] (F : Nat → Prop) (r bo : Nat) (β μ : Nat → Nat) (S : Pz.Fil) (s : ByteArray) (w : World) (hs : s.size ≤ 100000) (hO : Pz.Ok S) (hR : RealAt w F r bo β μ S) :
    Calls Tryz.prog 53 #[.pointer (some ⟨r, 0, none⟩), .string s] w fun e w' => e = .returned (toL β (Pz.place S s.data.toList)) ∧ Below w.heap.size w w' := by
  have HR := Lib.hid hR
  by_cases hG : Np.pathL s.data.toList = none ∨ Np.pathL s.data.toList = some []
  · rw [place_none hG]
    have h1 := fun W (h : Mx W) => parentN s W hs h hG
    have H1 := Lib.hid h1
    clear h1 hG hO hR
    simp only [toL]
    go_enter Tryz.func53, Tryz.ntmps53
    go_wp2_with fail
    refine (H1.out _ HR.out.mx.1).mono ?_
    rintro e w1 ⟨rfl, hb1⟩
    go_wp2
    go_ret3
    exact ⟨rfl, hb1⟩
  obtain ⟨L, x, hL⟩ : ∃ L x, Np.pathL s.data.toList = some (L ++ [x]) := by
    cases h : Np.pathL s.data.toList with
    | none => exact absurd (Or.inl h) hG
    | some M =>
      have hne : M ≠ [] := fun e => hG (Or.inr (by rw [h, e]))
      exact ⟨M.dropLast, M.getLast hne, by rw [List.dropLast_concat_getLast hne]⟩
  rw [place_some hL]
  have hl6 := (pathL_names hL).1
  rw [List.length_append, List.length_singleton] at hl6
  have h1 := fun W (h : Mx W) => parentY s L x W hs h hL
  have h2 := fun A c B' W hR hS => fwalk_any F r bo β μ S A L c B' W hO (by omega) (fun y hy => names_len hL y (List.mem_append_left _ hy)) hR hS
  have hwl := fun m h => Pz.walk_lt hO (L := L) (n := 0) (m := m) hO.root h
  have hwe := fun e h => Pz.walk_err (S := S) (L := L) (n := 0) (e := e) h
  have H1 := Lib.hid h1
  have H2 := Lib.hid h2
  have HWL := Lib.hid hwl
  have HWE := Lib.hid hwe
  clear h1 h2 hwl hwe hL hG hl6 hR hO
  obtain ⟨R, hRv⟩ : ∃ R, R = Pz.walk S 0 L := ⟨_, rfl⟩
  rw [← hRv] at H2 HWL HWE ⊢
  clear hRv
  cases R with
  | error v =>
    simp only [toW] at H2
    simp only [Pz.placeOn, toL]
    obtain ⟨hv1, hv2, hv3⟩ := ne_of_err (v := v) ((HWE.out v rfl).elim Or.inl fun h => Or.inr (Or.inl h))
    go_enter Tryz.func53, Tryz.ntmps53
    go_wp2_with fail
    refine (H1.out _ HR.out.mx.1).mono ?_
    rintro e w1 ⟨A, rfl, hS, hb1⟩
    have HS := Lib.hid hS
    clear hS
    go_wp2_with fail
    refine (H2.out _ _ _ _ ((RealAt.held r bo β μ S).below HR.out hb1) HS.out).mono ?_
    rintro e w2 ⟨rfl, hb2⟩
    go_wp2
    go_ret3
    exact ⟨rfl, hb1.trans (hb2.mono hb1.size)⟩
  | ok m =>
    have hm := HWL.out m rfl
    simp only [toW] at H2
    have HD := Lib.hid fun W (h : RealAt W F r bo β μ S) => fdir_any W F r bo m β μ S hm h
    simp only [Pz.placeOn]
    clear hm
    cases hd : Pz.isDir S.N m with
    | true =>
      rw [hd] at HD
      clear hd
      simp only [if_true, toL]
      go_enter Tryz.func53, Tryz.ntmps53
      go_wp2_with fail
      refine (H1.out _ HR.out.mx.1).mono ?_
      rintro e w1 ⟨A, rfl, hS, hb1⟩
      have HS := Lib.hid hS
      clear hS
      go_wp2_with fail
      refine (H2.out _ _ _ _ ((RealAt.held r bo β μ S).below HR.out hb1) HS.out).mono ?_
      rintro e w2 ⟨rfl, hb2⟩
      have HB := Lib.hid (hb1.trans (hb2.mono hb1.size))
      clear hb1 hb2
      go_wp2_with fail
      refine (HD.out _ ((RealAt.held r bo β μ S).below HR.out HB.out)).mono ?_
      rintro e w3 ⟨rfl, hb3⟩
      go_wp2
      go_ret3
      exact ⟨rfl, HB.out.trans (hb3.mono HB.out.size)⟩
    | false =>
      rw [hd] at HD
      clear hd
      simp only [Bool.false_eq_true, if_false, toL]
      go_enter Tryz.func53, Tryz.ntmps53
      go_wp2_with fail
      refine (H1.out _ HR.out.mx.1).mono ?_
      rintro e w1 ⟨A, rfl, hS, hb1⟩
      have HS := Lib.hid hS
      clear hS
      go_wp2_with fail
      refine (H2.out _ _ _ _ ((RealAt.held r bo β μ S).below HR.out hb1) HS.out).mono ?_
      rintro e w2 ⟨rfl, hb2⟩
      have HB := Lib.hid (hb1.trans (hb2.mono hb1.size))
      clear hb1 hb2
      go_wp2_with fail
      refine (HD.out _ ((RealAt.held r bo β μ S).below HR.out HB.out)).mono ?_
      rintro e w3 ⟨rfl, hb3⟩
      go_wp2
      go_ret3
      exact ⟨rfl, HB.out.trans (hb3.mono HB.out.size)⟩

end Go.Proofs.YtbpejjmfdhkfhaaGreatDoor

/- Walks: the program's small functions: is, fails, done, folder, New, sized, both, over, free. -/
namespace Go.Proofs.YtbpejjmfdhkfhaaGreatDoor
open Go.RowKit

set_option maxHeartbeats 1000000 in
theorem fis_any (cl : Int) (w : World) :
    Calls Tryz.prog 21 #[.int .i64 cl] w fun e w' => e = .returned (.bool (decide (1 ≤ cl ∧ cl ≤ 8))) ∧ Below w.heap.size w w' := by
  by_cases h1 : 1 ≤ cl
  · by_cases h2 : cl ≤ 8
    · rw [decide_eq_true (And.intro h1 h2)]
      go_enter Tryz.func21, Tryz.ntmps21
      go_wp2
      go_ret
      exact ⟨rfl, Below.refl _ _⟩
    · rw [decide_eq_false (fun h => h2 h.2)]
      have h2' : 8 < cl := by omega
      go_enter Tryz.func21, Tryz.ntmps21
      go_wp2
      go_ret
      exact ⟨rfl, Below.refl _ _⟩
  · rw [decide_eq_false (fun h => h1 h.1)]
    have h1' : cl < 1 := by omega
    go_enter Tryz.func21, Tryz.ntmps21
    go_wp2
    go_ret
    exact ⟨rfl, Below.refl _ _⟩

set_option maxHeartbeats 1000000 in
theorem ffails_any (e0 : Int) (w : World) :
    Calls Tryz.prog 22 #[.int .i64 e0] w fun e w' => e = .returned (replyV e0 0 ⟨#[]⟩ (.slice none 0 0) 0 0 0) ∧ Below w.heap.size w w' := by
  go_enter Tryz.func22, Tryz.ntmps22
  go_wp2
  try simp only [Exit.inBlock, Exit.then]
  refine bodyPost_ret (results_cell_row rfl _ _ w.heap.size _ #[.int .i64 e0, .int .i64 0, .string ⟨#[]⟩, .slice none 0 0, .int .i64 0, .int .i64 0, .int .i64 0] _ _ rfl (heap_alloc_new _ _) Tryz.underlying36 rfl Tryz.infoR) rfl ?_
  exact ⟨rfl, (Below.refl _ _).alloc (Nat.le_refl _) _⟩
set_option maxHeartbeats 1000000 in
theorem fdone_any (w : World) :
    Calls Tryz.prog 56 #[] w fun e w' => e = .returned (replyV 0 0 ⟨#[]⟩ (.slice none 0 0) 0 0 0) ∧ Below w.heap.size w w' := by
  go_enter Tryz.func56, Tryz.ntmps56
  go_wp2
  try simp only [Exit.inBlock, Exit.then]
  refine bodyPost_ret (results_cell_row rfl _ _ w.heap.size _ #[.int .i64 0, .int .i64 0, .string ⟨#[]⟩, .slice none 0 0, .int .i64 0, .int .i64 0, .int .i64 0] _ _ rfl (heap_alloc_new _ _) Tryz.underlying36 rfl Tryz.infoR) rfl ?_
  exact ⟨rfl, (Below.refl _ _).alloc (Nat.le_refl _) _⟩

set_option maxHeartbeats 1000000 in
theorem ffolder_any (w : World) :
    Calls Tryz.prog 51 #[] w fun e w' => e = .returned (.pointer (some ⟨w.heap.size + 1, 0, none⟩)) ∧ w'.heap[w.heap.size]? = some (.map #[] 0) ∧ w'.heap[w.heap.size + 1]? = some (.cells #[.string ⟨#[]⟩, .int .i64 1, .map (some w.heap.size)] 105 (0, 0)) ∧ w'.heap.size = w.heap.size + 2 ∧ Below w.heap.size w w' := by
  have hmm := @run_makeMap Tryz.prog
  go_enter Tryz.func51, Tryz.ntmps51
  go_wp2
  go_ret
  refine ⟨rfl, ?_, heap_alloc2_new _ _ _, by simp, ((Below.refl _ _).alloc (Nat.le_refl _) _).alloc (by simp) _⟩
  rw [Below.heap_alloc _ _ _ (by simp)]
  exact heap_alloc_new _ _

theorem fsized_tail (l : List UInt8) (n : Nat) (h : ¬ n ≤ l.length) : l ++ Lib.repeatL [0] (n - l.length) = Pz.sized l n := by
  rw [Pz.sized_long (by omega), show ([0] : List UInt8) = List.replicate 1 0 from rfl, Lib.repeatL_replicate, Nat.mul_one]
set_option maxHeartbeats 1000000 in
theorem fsized_any (s : ByteArray) (n : Nat) (w : World) (hs : s.size ≤ 1000000) (hn : n ≤ 1000000) :
    Calls Tryz.prog 57 #[.string s, .int .i64 n] w fun e w' => e = .returned (.string ⟨(Pz.sized s.data.toList n).toArray⟩) ∧ Below w.heap.size w w' := by
  have hl := Lib.size_eq s
  have Hl := Lib.hid hl; clear hl
  by_cases hlt : n ≤ s.size
  · go_enter Tryz.func57, Tryz.ntmps57
    go_wp2
    go_ret
    refine ⟨ret_str ?_, Below.refl _ _⟩
    have := Hl.out
    rw [ba_head, Pz.sized_cut (by omega)]
  · obtain ⟨k, hk⟩ : ∃ k : Nat, k = n - s.size := ⟨_, rfl⟩
    have hk2 : (n : Int) - (s.size : Int) = (k : Int) := by omega
    have Hk := Lib.hid hk
    have hkb : k ≤ 1000000 := by omega
    clear hk
    have hr := fun W => Tryz.strings_Repeat ⟨#[0]⟩ k W (by omega) (by show 1 * k ≤ _; omega)
    have HR := Lib.hid hr; clear hr
    have hrl : (Lib.repeatL [0] k).length ≤ 1000000 := by rw [Lib.repeatL_length]; simp; omega
    go_enter Tryz.func57, Tryz.ntmps57
    go_wp2_with (go_at_call 77; refine (HR.out _).mono ?_; rintro e w' ⟨rfl, hb⟩)
    go_ret
    refine ⟨ret_str ?_, by assumption⟩
    have := Hl.out
    have h2 := Hk.out
    rw [ba_app, ← fsized_tail _ _ (by omega), h2, ← ba_len]

theorem path_code (s : ByteArray) (w : World) (hs : s.size ≤ 100000) (hM : Mx w) :
    Calls Tryz.prog 74 #[.string s] w fun e w' => ∃ A n c, e = .returned (.tuple #[.slice A n c, .int .i64 (if (Np.pathL s.data.toList).isSome then 0 else 15)]) ∧ Below w.heap.size w w' := by
  cases hG : Np.pathL s.data.toList with
  | none => exact (pathN s w hs hM hG).mono fun e w' ⟨he, hb⟩ => ⟨none, 0, 0, he, hb⟩
  | some L => exact (pathY s L w hs hM hG).mono fun e w' ⟨A, c, he, _, _, hb⟩ => ⟨A, L.length, c, he, hb⟩

set_option maxHeartbeats 4000000 in
set_option maxRecDepth 8192 in
theorem fboth_any (kind flags fd off n : Int) (p p2 data : ByteArray) (w : World) (hp : p.size ≤ 100000) (hp2 : p2.size ≤ 100000) (hM : Mx w) :
    Calls Tryz.prog 58 #[callV kind p p2 flags fd off n data] w fun e w' => e = .returned (.bool ((Np.pathL p.data.toList).isSome && (Np.pathL p2.data.toList).isSome)) ∧ Below w.heap.size w w' := by
  have h1 := fun W h => path_code p W hp h
  have h2 := fun W h => path_code p2 W hp2 h
  have HM := Lib.hid hM
  clear hM
  unfold callV
  have FB := Lib.hid (heap_alloc_new w (.cells #[.int .i64 kind, .string p, .string p2, .int .i64 flags, .int .i64 fd, .int .i64 off, .int .i64 n, .string data] 24))
  generalize (Np.pathL p.data.toList).isSome = x at h1 ⊢
  generalize (Np.pathL p2.data.toList).isSome = y at h2 ⊢
  cases x <;> cases y
  all_goals
    simp only [if_true, if_false, Bool.false_eq_true] at h1 h2
    have H1 := Lib.hid h1
    have H2 := Lib.hid h2
    clear h1 h2
    go_enter Tryz.func58, Tryz.ntmps58
    go_wp2_with fail
    refine (H1.out _ (HM.out.keep ((Below.refl w.heap.size w).alloc (Nat.le_refl _) _))).mono ?_
    rintro e w1 ⟨A1, n1, c1, rfl, hb1⟩
    have hbx := (hb1.block w.heap.size (by simp)).trans FB.out
    have b2 := cell_of_row w1 _ 2 _ _ _ hbx
    have HB := Lib.hid (((Below.refl w.heap.size w).alloc (Nat.le_refl _) _).trans (hb1.mono (by simp)))
    clear hbx
    go_wp2_with fail
    refine (H2.out _ (HM.out.keep HB.out)).mono ?_
    rintro e w2 ⟨A2, n2, c2, rfl, hb2⟩
    have HB2 := Lib.hid (HB.out.trans (hb2.mono HB.out.size))
    go_wp2
    go_ret
    exact ⟨rfl, HB2.out⟩

end Go.Proofs.YtbpejjmfdhkfhaaGreatDoor
