/- commonslaw23.cut: a call is cut. -/
import Derived.Test.YtiinponoeaihcaaGreatU16
import Derived.Test.YtiinponoeaihcaaGreatU24
set_option linter.unusedVariables false
set_option linter.unusedSimpArgs false
set_option linter.unusedSectionVars false
namespace Go.Proofs.YtiinponoeaihcaaGreat
open Go.RowKit Go.Shelf

attribute [local go_sem] Oper.semAt_some
def CutP (kd : Int) (fl fd off n : Int) (w : World) (e : Ending) (w' : World) : Prop := ∃ p1 p2 d, e = .returned (.agg (callL kd p1 p2 fl fd off n d).toArray) ∧ d.size ≤ 80 ∧ Below w.heap.size w w'
theorem cutS (s : ByteArray) (k : Nat) (h : k ≤ s.size) : (s.extract 0 k).size = k := by
  rw [ByteArray.size_extract]
  omega
set_option maxHeartbeats 8000000 in
set_option maxRecDepth 100000 in
theorem cut23_any (kd : Int) (p1 p2 : ByteArray) (fl fd off n : Int) (d : ByteArray) (h1 : p1.size ≤ 1100000) (h2 : p2.size ≤ 1100000) (h3 : d.size ≤ 1100000) (w : World) :
    Calls Tryz.prog 13 #[.agg (callL kd p1 p2 fl fd off n d).toArray] w (CutP kd fl fd off n w) := by
  show Calls Tryz.prog 13 #[.agg #[.int .i64 kd, .string p1, .string p2, .int .i64 fl, .int .i64 fd, .int .i64 off, .int .i64 n, .string d]] w _
  have hnew : ∀ C1 C2 : Array Value, ((w.alloc (.cells C1 30)).alloc (.cells C2 30)).heap[w.heap.size + 1]? = some (.cells C2 30 (0, 0)) := fun C1 C2 => by
    have := heap_alloc_new (w.alloc (.cells C1 30)) (.cells C2 30)
    rwa [show (w.alloc (.cells C1 30)).heap.size = w.heap.size + 1 by simp] at this
  have hbl : ∀ C1 C2 : Array Value, Below w.heap.size w ((w.alloc (.cells C1 30)).alloc (.cells C2 30)) := fun C1 C2 => ((Below.refl _ _).alloc (Nat.le_refl _) _).alloc (by simp) _
  go_enter Tryz.func13, Tryz.ntmps13
  by_cases g1 : (110 : Int) < p1.size
  ·
    by_cases g2 : (110 : Int) < p2.size
    ·
      by_cases g3 : (80 : Int) < d.size
      ·
        go_wp2_with fail
        refine bodyPost_ret (results_cell_row rfl _ _ (w.heap.size + 1) 30 (callL kd (p1.extract 0 110) (p2.extract 0 110) fl fd off n (d.extract 0 80)).toArray (0, 0) _ rfl (hnew _ _) Tryz.underlying30 rfl (by kernel_rfl)) rfl ?_
        exact ⟨_, _, _, rfl, (by rw [cutS _ _ (by omega)]; exact Nat.le_refl _), hbl _ _⟩
      ·
        go_wp2_with fail
        refine bodyPost_ret (results_cell_row rfl _ _ (w.heap.size + 1) 30 (callL kd (p1.extract 0 110) (p2.extract 0 110) fl fd off n d).toArray (0, 0) _ rfl (hnew _ _) Tryz.underlying30 rfl (by kernel_rfl)) rfl ?_
        exact ⟨_, _, _, rfl, (by omega), hbl _ _⟩
    ·
      by_cases g3 : (80 : Int) < d.size
      ·
        go_wp2_with fail
        refine bodyPost_ret (results_cell_row rfl _ _ (w.heap.size + 1) 30 (callL kd (p1.extract 0 110) p2 fl fd off n (d.extract 0 80)).toArray (0, 0) _ rfl (hnew _ _) Tryz.underlying30 rfl (by kernel_rfl)) rfl ?_
        exact ⟨_, _, _, rfl, (by rw [cutS _ _ (by omega)]; exact Nat.le_refl _), hbl _ _⟩
      ·
        go_wp2_with fail
        refine bodyPost_ret (results_cell_row rfl _ _ (w.heap.size + 1) 30 (callL kd (p1.extract 0 110) p2 fl fd off n d).toArray (0, 0) _ rfl (hnew _ _) Tryz.underlying30 rfl (by kernel_rfl)) rfl ?_
        exact ⟨_, _, _, rfl, (by omega), hbl _ _⟩
  ·
    by_cases g2 : (110 : Int) < p2.size
    ·
      by_cases g3 : (80 : Int) < d.size
      ·
        go_wp2_with fail
        refine bodyPost_ret (results_cell_row rfl _ _ (w.heap.size + 1) 30 (callL kd p1 (p2.extract 0 110) fl fd off n (d.extract 0 80)).toArray (0, 0) _ rfl (hnew _ _) Tryz.underlying30 rfl (by kernel_rfl)) rfl ?_
        exact ⟨_, _, _, rfl, (by rw [cutS _ _ (by omega)]; exact Nat.le_refl _), hbl _ _⟩
      ·
        go_wp2_with fail
        refine bodyPost_ret (results_cell_row rfl _ _ (w.heap.size + 1) 30 (callL kd p1 (p2.extract 0 110) fl fd off n d).toArray (0, 0) _ rfl (hnew _ _) Tryz.underlying30 rfl (by kernel_rfl)) rfl ?_
        exact ⟨_, _, _, rfl, (by omega), hbl _ _⟩
    ·
      by_cases g3 : (80 : Int) < d.size
      ·
        go_wp2_with fail
        refine bodyPost_ret (results_cell_row rfl _ _ (w.heap.size + 1) 30 (callL kd p1 p2 fl fd off n (d.extract 0 80)).toArray (0, 0) _ rfl (hnew _ _) Tryz.underlying30 rfl (by kernel_rfl)) rfl ?_
        exact ⟨_, _, _, rfl, (by rw [cutS _ _ (by omega)]; exact Nat.le_refl _), hbl _ _⟩
      ·
        go_wp2_with fail
        refine bodyPost_ret (results_cell_row rfl _ _ (w.heap.size + 1) 30 (callL kd p1 p2 fl fd off n d).toArray (0, 0) _ rfl (hnew _ _) Tryz.underlying30 rfl (by kernel_rfl)) rfl ?_
        exact ⟨_, _, _, rfl, (by omega), hbl _ _⟩
end Go.Proofs.YtiinponoeaihcaaGreat

/- The head of the law's rounds: what lies there to be sent. -/
namespace Go.Proofs.YtiinponoeaihcaaGreat
open Go.RowKit Go.Shelf

/-- what lies at the head of a round: the client, and the packet that it sent, or none; high: the greatest number that the law saw -/
def HeadI (cb N : Nat) (high : Int) (v : Value) (w0 : World) (Ls : List (Nat × Obj)) (w : World) : Prop :=
  ∃ S g, Ck cb S w0 Ls w ∧ Jv N g S ∧ ((v = .slice none 0 0 ∧ g = high) ∨
    ∃ b, v = .slice (some ⟨b, 0, none⟩) 1 1 ∧ w.rangeAt b 0 (pkC S.out).toList ∧ S.waits = true ∧ (S.out.kd = 3 → (high < S.out.sq ∨ S.out.sq = S.id ∨ S.out.sq = high) ∧ g = max high S.out.sq) ∧ (S.out.kd = 1 → g = high))
theorem Jv.mono {N M : Nat} {g : Int} {S : Cs} (h : Jv N g S) (hNM : N ≤ M) : Jv M g S := by
  obtain ⟨⟨b, s, w⟩, h2, h3, h4, h5, h6, h7⟩ := h
  refine ⟨⟨⟨b.life, ⟨b.cnt.1, by have := b.cnt.2; omega⟩, b.ep, ⟨b.vs.1, by have := b.vs.2; omega⟩, ⟨b.tail.1, by have := b.tail.2; omega⟩, b.f, b.hm, b.wm, Nat.le_trans b.hn hNM, fun i H hi => ⟨(b.hold i H hi).1, (b.hold i H hi).2.1, Nat.le_trans (b.hold i H hi).2.2 hNM⟩, b.fd, b.got, b.d, b.ok⟩, s, w⟩, h2, h3, h4, h5, h6, h7⟩
theorem sent_head {cb N : Nat} {high : Int} {S T : Cs} {p : Pk} {now : Int} {w0 : World} {Ls : List (Nat × Obj)} {b : Nat} {w : World} (hJ : Jv N high S) (hN : N ≤ 8000) (hw : S.waits = false) (hT : NextP S T p) (hr : w.rangeAt b 0 (pkC (sentP T p)).toList) (hc : Ck cb { T with out := sentP T p, waits := true, sent := now, asked := now } w0 Ls w) :
    HeadI cb (N + 2) high (.slice (some ⟨b, 0, none⟩) 1 1) w0 Ls w := by
  obtain ⟨hg, g', h3, h1, hk, hJ2⟩ := hJ.sent now hN hw hT
  refine ⟨outS T p now, g', hc, hJ2, Or.inr ⟨b, rfl, hr, rfl, fun e => ?_, fun e => h1 e⟩⟩
  obtain ⟨h4, h5⟩ := h3 e
  exact ⟨h4.imp id Or.inl, h5⟩
theorem nextE_head {cb N : Nat} {high : Int} {U : Cs} {now : Int} {w0 : World} {Ls : List (Nat × Obj)} {e : Ending} {w' : World} (hJ : Jv N high U) (hN : N ≤ 8000) (h : NextE cb U now w0 Ls e w') : ∃ v, e = .returned v ∧ HeadI cb (N + 2) high v w0 Ls w' := by
  rcases h with ⟨rfl, hc⟩ | ⟨T, p, _, hw, hT, b, rfl, hr, hc⟩
  · exact ⟨_, rfl, U, high, hc, hJ.mono (by omega), Or.inl ⟨rfl, rfl⟩⟩
  · exact ⟨_, rfl, sent_head hJ hN hw hT hr hc⟩
/-- a message again -/
theorem again_head {cb N : Nat} {high : Int} {S : Cs} {now : Int} {w0 : World} {Ls : List (Nat × Obj)} {b : Nat} {w : World} (hJ : Jv N high S) (hw : S.waits = true) (hr : w.rangeAt b 0 (pkC S.out).toList) (hc : Ck cb (sentAt S now) w0 Ls w) : HeadI cb (N + 2) high (.slice (some ⟨b, 0, none⟩) 1 1) w0 Ls w := by
  have hJ2 := (hJ.tick now).mono (show N ≤ N + 2 by omega)
  have hk := (hJ.iv.wt hw).kd
  rcases hk with hk | hk
  · exact ⟨sentAt S now, high, hc, hJ2, Or.inr ⟨b, rfl, hr, hw, fun e => (by have e : S.out.kd = 3 := e; omega), fun _ => rfl⟩⟩
  · rcases hJ.iv.sn.out hw hk with e | ⟨e, hwk⟩
    · refine ⟨sentAt S now, high, hc, hJ2, Or.inr ⟨b, rfl, hr, hw, fun _ => ⟨Or.inr (Or.inr e), ?_⟩, fun _ => rfl⟩⟩
      show high = max high S.out.sq
      omega
    · have ht := hJ.iv.sn.top
      have hid := hJ.iv.sn.id
      have hs : Sn (max high S.out.sq) (sentAt S now) := ⟨by show max high S.out.sq ≤ topN S; omega, hid, fun _ _ => Or.inr ⟨e, hwk⟩⟩
      refine ⟨sentAt S now, max high S.out.sq, hc, ⟨⟨hJ2.iv.bd, hs, hJ2.iv.wt⟩, hJ2.id, hJ2.cl, hJ2.up, hJ2.out, hJ2.nv, hJ2.tn⟩, Or.inr ⟨b, rfl, hr, hw, fun _ => ⟨Or.inr (Or.inl e), rfl⟩, fun e3 => (by have e3 : S.out.kd = 1 := e3; omega)⟩⟩
theorem Jv.recs {N : Nat} {g : Int} {S : Cs} (h : Jv N g S) : S.wk ≠ none → (recW S).d.length ≤ 1000 := fun _ => Nat.le_trans (recW_len S) (Nat.le_trans h.iv.bd.d (by omega))
section
variable {cb N : Nat} {high : Int} {S : Cs} {w0 : World} {Ls : List (Nat × Obj)}
theorem tick_head (hJ : Jv N high S) (hN : N ≤ 8000) (now : Int) (w : World) (h : Ck cb S w0 Ls w) :
    Calls Tryz.prog 8 #[pC cb, .int .i64 now] w fun e w' => ∃ v, e = .returned v ∧ HeadI cb (N + 2) high v w0 Ls w' := by
  refine (ctick_any hJ.iv.bd hN hJ.recs (by rw [hJ.nv]; rfl) now w h).mono ?_
  rintro e w' (⟨rfl, hc⟩ | ⟨_, hw, b, rfl, hr, hc⟩ | ⟨T, p, _, hw, hT, b, rfl, hr, hc⟩)
  · exact ⟨_, rfl, S, high, hc, hJ.mono (by omega), Or.inl ⟨rfl, rfl⟩⟩
  · exact ⟨_, rfl, again_head hJ hw hr hc⟩
  · exact ⟨_, rfl, sent_head hJ hN hw hT hr hc⟩
theorem recv_head (hJ : Jv N high S) (hN : N ≤ 7000) (v : Value) (now : Int) (w : World) (h : Ck cb S w0 Ls w)
    (hR : Calls Tryz.prog 18 #[v] w fun e w' => ∃ p er, e = .returned (.tuple #[.agg (pkC p), .int .i64 er]) ∧ ReadP p er ∧ p.nv.oneCell' = true ∧ Below w.heap.size w w') :
    Calls Tryz.prog 9 #[pC cb, v, .int .i64 now] w fun e w' => ∃ u, e = .returned u ∧ HeadI cb (N + 4) high u w0 Ls w' := by
  refine (creceive_any (M := N + 2) (Rq := ReadP) (fun _ _ h => h) hJ.iv.bd (by omega) (by omega) (fun e => (hJ.iv.wt e).wt) v now w h (fun p U hp hf hT => (hJ.take hf hp hT).1.iv.bd) hR).mono ?_
  rintro e w' ⟨p, er, hP, ⟨_, rfl, hc⟩ | ⟨he, _, _, ⟨_, hn⟩ | ⟨hf, U, hT, hn⟩⟩⟩
  · exact ⟨_, rfl, S, high, hc, hJ.mono (by omega), Or.inl ⟨rfl, rfl⟩⟩
  · obtain ⟨u, hu, S', g', h1, h2, h3⟩ := nextE_head hJ (by omega) hn
    exact ⟨u, hu, S', g', h1, h2.mono (by omega), h3⟩
  · obtain ⟨u, hu, S', g', h1, h2, h3⟩ := nextE_head (hJ.take hf (hP he).1 hT).1 (by omega) hn
    exact ⟨u, hu, S', g', h1, h2.mono (by omega), h3⟩
theorem ask_head (hJ : Jv N high S) (hN : N ≤ 8000) (kd : Int) (p1 p2 : ByteArray) (fl fd off n : Int) (d : ByteArray) (hf : I64 fd) (hd : d.size ≤ 80) (now : Int) (w : World) (h : Ck cb S w0 Ls w) :
    Calls Tryz.prog 12 #[pC cb, .agg (callL kd p1 p2 fl fd off n d).toArray, .int .i64 now] w fun e w' => ∃ v er, e = .returned (.tuple #[v, .int .i64 er]) ∧ HeadI cb (N + 2) high v w0 Ls w' := by
  refine (cask2_any hJ.iv.bd hN kd p1 p2 fl fd off n d hf hd now w h).mono ?_
  rintro e w' (⟨_, rfl, hc⟩ | ⟨_, _, rfl, hc⟩ | ⟨_, hwk, _, b, U, hU, ⟨rfl, hc⟩ | ⟨T, p, hw, hT, b2, rfl, hr, hc⟩⟩)
  · exact ⟨_, _, rfl, S, high, hc, hJ.mono (by omega), Or.inl ⟨rfl, rfl⟩⟩
  · exact ⟨_, _, rfl, S, high, hc, hJ.mono (by omega), Or.inl ⟨rfl, rfl⟩⟩
  · exact ⟨_, _, rfl, U, high, hc, (hJ.given hwk rfl hf hd hU).mono (by omega), Or.inl ⟨rfl, rfl⟩⟩
  · exact ⟨_, _, rfl, sent_head (hJ.given hwk rfl hf hd hU) hN hw hT hr hc⟩
end
end Go.Proofs.YtiinponoeaihcaaGreat
