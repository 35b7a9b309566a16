/- Walks: the law PosixRefuses: what is refused changes nothing. -/
import Derived.Test.YtiepdioaidglmaaGreatDoorPosPlayed
import Derived.Test.YtiepdioaidglmaaGreatDoorPosCopyX
set_option linter.unusedVariables false
set_option linter.unusedSimpArgs false
namespace Go.Proofs.YtiepdioaidglmaaGreatDoor
open Go.RowKit

namespace Pz
/-- what is refused tells its error alone, and nothing has changed -/
def Ref (S : Fil) (R : Fil × Rep) : Prop := R.2.errno ≠ 0 → R = (S, er R.2.errno)
theorem ref_er (S : Fil) (e : Int) : Ref S (S, er e) := fun _ => rfl
theorem ref_ok {S T : Fil} {q : Rep} (h : q.errno = 0) : Ref S (T, q) := fun hh => absurd h hh
theorem opens_ref (S : Fil) (cl flags : Int) (p : List UInt8) : Ref S (opens S cl flags p) := by
  unfold opens
  split
  · exact ref_er _ _
  split
  · split
    · exact ref_er _ _
    split
    · exact ref_er _ _
    split
    · exact ref_er _ _
    · exact ref_ok rfl
  · split
    · split
      · exact ref_er _ _
      split
      · exact ref_er _ _
      · exact ref_ok rfl
    · exact ref_er _ _
theorem file_ref (S : Fil) (cl : Int) (n : Nat) (kind fd off m : Int) (d : List UInt8) : Ref S (file S cl n kind fd off m d) := by
  unfold file
  split
  · exact ref_ok rfl
  split
  · split
    · exact ref_er _ _
    split
    · exact ref_er _ _
    · exact ref_ok rfl
  split
  · split
    · exact ref_er _ _
    split
    · exact ref_er _ _
    split
    · exact ref_er _ _
    · exact ref_ok rfl
  split
  · split
    · exact ref_er _ _
    split
    · exact ref_er _ _
    · exact ref_ok rfl
  · exact ref_er _ _
theorem mkdir_ref (S : Fil) (p : List UInt8) : Ref S (mkdir S p) := by
  unfold mkdir
  split
  · exact ref_er _ _
  split
  · exact ref_er _ _
  · exact ref_ok rfl
theorem rmdir_ref (S : Fil) (p : List UInt8) : Ref S (rmdirR S p) := by
  unfold rmdirR
  split
  · exact ref_er _ _
  split
  · exact ref_er _ _
  split
  · split
    · exact ref_er _ _
    split
    · exact ref_er _ _
    · exact ref_ok rfl
  · exact ref_er _ _
theorem link_ref (S : Fil) (p p2 : List UInt8) : Ref S (link S p p2) := by
  unfold link
  split
  · exact ref_er _ _
  split
  · exact ref_er _ _
  split
  · exact ref_er _ _
  split
  · exact ref_er _ _
  split
  · exact ref_er _ _
  split
  · exact ref_er _ _
  split
  · exact ref_er _ _
  · exact ref_ok rfl
theorem unlink_ref (S : Fil) (p : List UInt8) : Ref S (unlink S p) := by
  unfold unlink
  split
  · exact ref_er _ _
  split
  · exact ref_er _ _
  split
  · exact ref_er _ _
  · exact ref_ok rfl
theorem rename_ref (S : Fil) (p p2 : List UInt8) : Ref S (rename S p p2) := by
  unfold rename
  split
  · exact ref_er _ _
  split
  · exact ref_er _ _
  split
  · exact ref_er _ _
  split
  · exact ref_er _ _
  split
  · exact ref_er _ _
  split
  · exact ref_er _ _
  split
  · exact ref_er _ _
  · exact ref_ok rfl
theorem tells_ref (S : Fil) (kind : Int) (p : List UInt8) : Ref S (tells S kind p) := by
  unfold tells
  split
  · exact ref_er _ _
  split
  · split <;> exact ref_ok rfl
  · split
    · exact ref_ok rfl
    · exact ref_er _ _
theorem do_ref (S : Fil) (cl kind : Int) (p p2 : List UInt8) (flags fd off m : Int) (d : List UInt8) : Ref S (doA S cl kind p p2 flags fd off m d) := by
  unfold doA
  split
  · exact ref_er _ _
  split
  · exact opens_ref _ _ _ _
  split
  · split
    · exact ref_er _ _
    · exact file_ref _ _ _ _ _ _ _ _
  split
  · exact mkdir_ref _ _
  split
  · exact rmdir_ref _ _
  split
  · exact link_ref _ _ _
  split
  · exact unlink_ref _ _
  split
  · exact rename_ref _ _ _
  split
  · exact tells_ref _ _ _
  · exact ref_er _ _
end Pz

theorem MxX.keep2 [Inhabited XBox] {w w' : World} (h : MxX w) (hb : Below w.heap.size w w') : MxX w' := by
  refine ⟨h.1.keep hb, ?_⟩
  obtain ⟨m, hm⟩ := h.1
  exact (hb.block maxB (World.block_lt_of_cell? w ⟨maxB, 0, none⟩ hm)).trans h.2
theorem Shape.far {w w' : World} {r bo : Nat} {β μ : Nat → Nat} {S : Pz.Fil} {V : Nat → Prop} {F : Nat → Prop} (h : Shape w r bo β μ S V) (ho : Only F w w') (hr : ¬ F r) (hb : ¬ F bo) (hn : ∀ n, V n → ¬ F (β n) ∧ (Pz.isDir S.N n = true → ¬ F (μ n))) : Shape w' r bo β μ S V :=
  { h with
    root := (ho.block _ (lt_of_get h.root) hr).trans h.root
    node := fun n hv => (ho.block _ (lt_of_get (h.node n hv)) (hn n hv).1).trans (h.node n hv)
    dirs := fun n hv hd => by
      obtain ⟨D, o, m⟩ := h.dirs n hv hd
      exact ⟨D, map_keep o (ho.block _ o.lt ((hn n hv).2 hd)), m⟩
    opn := by
      obtain ⟨D, o, m⟩ := h.opn
      exact ⟨D, map_keep o (ho.block _ o.lt hb), m⟩ }

set_option maxHeartbeats 8000000 in
set_option maxRecDepth 100000 in
theorem law_refuses [Inhabited XBox] (A : Option Addr) (L : List Ask) (c : Nat) (cl kind flags fd off n : Int) (p p2 data : ByteArray) (w : World) (hx : MxX w) (hlen : L.length ≤ 9223372036854775807) (hA : Asks w A L) (hI : ∀ a ∈ L, I64 a.cl ∧ I64 a.fd) (hcl : I64 cl) (hfd : I64 fd) :
    Calls Tryz.prog 9 #[.slice A L.length c, .int .i64 cl, callV kind p p2 flags fd off n data] w fun e w' => e = .returned (.bool true) ∧ Below w.heap.size w w' := by
  obtain ⟨wb, hwb⟩ : ∃ v, v = w.alloc (.cells #[.int .i64 kind, .string p, .string p2, .int .i64 flags, .int .i64 fd, .int .i64 off, .int .i64 n, .string data] 38) := ⟨_, rfl⟩
  have hbb : Below w.heap.size w wb := by rw [hwb]; exact (Below.refl _ _).alloc (Nat.le_refl _) _
  have hbox : wb.heap[w.heap.size]? = some (.cells #[.int .i64 kind, .string p, .string p2, .int .i64 flags, .int .i64 fd, .int .i64 off, .int .i64 n, .string data] 38 (0, 0)) := by
    rw [hwb]
    exact heap_alloc_new _ _
  have hlt : w.heap.size < wb.heap.size := (Array.getElem?_eq_some_iff.1 hbox).1
  have HP := Lib.hid (played_any A L c 30 wb (by omega) (hx.keep2 hbb) hlen (hA.keep hbb) hI)
  have HWb := Lib.hid hwb
  have HBb := Lib.hid hbb
  have HBox := Lib.hid hbox
  have HLt := Lib.hid hlt
  have HCl := Lib.hid hcl
  have HFd := Lib.hid hfd
  clear hx hA hI hwb hbb hbox hlt hcl hfd
  unfold callV
  go_enter Tryz.func9, Tryz.ntmps9
  go_wp2_with fail
  rw [← HWb.out]
  refine HP.out.mono ?_
  rintro e w1 ⟨pr, rr, S, F, G, rfl, hB, hG, hF⟩
  have HA1 := Lib.hid hB.alone
  have HG := Lib.hid hG
  have HF := Lib.hid hF
  obtain ⟨bo, β, μ, hR⟩ := hB.alone.real
  have HCo := Lib.hid (fcopy_any (hR.shape hG.ok) hG.once hG.dirs (Nat.le_trans hG.e (by omega)) hF.i64 hG.one (Nat.le_trans hG.o (by omega)))
  clear hB hF hG hR
  go_wp2_with fail
  refine HCo.out.mono ?_
  rintro e w2 ⟨r', bo', γ, ν, P, rfl, hSh, hb2, hr', hbo', hnew⟩
  have HA2 := Lib.hid (HA1.out.keep hb2)
  have HSh := Lib.hid hSh
  have HNew : Hid (¬ F r' ∧ ¬ F bo' ∧ ∀ n, n ∈ P → ¬ F (γ n) ∧ (Pz.isDir S.N n = true → ¬ F (ν n))) := Lib.hid (by
    have hf : ∀ k, w1.heap.size ≤ k → ¬ F k := fun k hk hF => absurd (HA1.out.fl k hF).1 (by omega)
    exact ⟨hf _ hr', hf _ hbo', fun n hn => ⟨hf _ (hnew n hn).1, fun hd => hf _ ((hnew n hn).2 hd)⟩⟩)
  obtain ⟨k0, k1, k2, k3, k4, k5, k6, k7⟩ := call8 ((HA2.out.below.block w.heap.size HLt.out).trans HBox.out)
  clear hSh hb2 hr' hbo' hnew HCo
  go_wp2_with fail
  refine (cut_any kind flags fd off n p p2 data w2).mono ?_
  rintro e w3 ⟨rfl, hb3⟩
  have HA3 := Lib.hid (HA2.out.keep hb3)
  have HSh3 := Lib.hid (HSh.out.keep hb3)
  clear hb3 k0 k1 k2 k3 k4 k5 k6 k7
  obtain ⟨R, hR⟩ : ∃ R, Pz.doA S cl kind (cutB p 60).data.toList (cutB p2 60).data.toList flags fd off n (cutB data 100).data.toList = R := ⟨_, rfl⟩
  have HRef : Hid (Pz.Ref S R) := Lib.hid (by rw [← hR]; exact Pz.do_ref _ _ _ _ _ _ _ _ _ _)
  have HDo := Lib.hid (fdo_any pr S cl kind flags fd off n (cutB p 60) (cutB p2 60) (cutB data 100) w3 F HCl.out HFd.out (Nat.le_trans (cutB_size _ _) (by omega)) (Nat.le_trans (cutB_size _ _) (by omega)) (HG.out.mono (by omega)) HA3.out.real)
  rw [hR] at HDo
  clear hR
  go_wp2_with fail
  refine HDo.out.mono ?_
  rintro e w4 ⟨A4, c4, rfl, -, hi4, ho4⟩
  have HA4 := Lib.hid (HA3.out.doReal hi4 ho4)
  have HSh4 := Lib.hid (HSh3.out.far ho4 HNew.out.1 HNew.out.2.1 HNew.out.2.2)
  clear hi4 ho4 HDo
  obtain ⟨S2, q⟩ := R
  obtain ⟨w5, hw⟩ : ∃ v, v = w4.alloc (.cells (repC q A4 c4) 35) := ⟨_, rfl⟩
  have hb5 : Below w4.heap.size w4 w5 := by rw [hw]; exact (Below.refl _ _).alloc (Nat.le_refl _) _
  have HA5 := Lib.hid (HA4.out.keep hb5)
  have HSh5 := Lib.hid (HSh4.out.keep hb5)
  have hbk : w5.heap[w4.heap.size]? = some (.cells (repC q A4 c4) 35 (0, 0)) := by
    rw [hw]
    exact heap_alloc_new _ _
  have e0 : w5.cell? ⟨w4.heap.size, 0, none⟩ = some (.int .i64 q.errno) := cell_of_row w5 _ 0 _ _ _ hbk
  have Hbk := Lib.hid hbk
  unfold repC at hw
  have HW5 := Lib.hid hw
  clear hw hb5 hbk
  unfold repV callV
  go_upto_region 8 with fail
  rw [← HW5.out]
  by_cases h0 : q.errno = 0
  · rw [h0] at e0
    clear h0
    go_wp2_with fail
    refine (lives_any _ HA5.out.real.mxx).mono ?_
    rintro e wz ⟨rfl, hbz⟩
    go_wp2
    go_ret
    exact ⟨rfl, HBb.out.trans ((HA5.out.below.trans (hbz.mono HA5.out.below.size)).mono HBb.out.size)⟩
  · have hrf := HRef.out h0
    obtain ⟨er, her⟩ : ∃ er, er = q.errno := ⟨_, rfl⟩
    simp only [Prod.mk.injEq] at hrf
    obtain ⟨hS2, hq⟩ := hrf
    rw [← her] at hq h0
    have hbk := Hbk.out
    rw [hq] at hbk
    unfold repC Pz.er at hbk
    simp only [List.length_nil] at hbk
    clear e0 her
    rw [hS2] at HA5
    obtain ⟨d0, d1, d2, d3, d4, d5, d6, _⟩ := cells7 hbk
    have HS2 := Lib.hid hS2
    have HQ := Lib.hid hq
    clear hS2 hq hbk
    go_wp2_with fail
    refine (samereply_any (Pz.er er) A4 none c4 0 0 w5 (by show (0 : Nat) ≤ _; omega) (Or.inl rfl) (Or.inl rfl)).mono ?_
    rintro e w6 ⟨rfl, hb6⟩
    have HA6 := Lib.hid (HA5.out.keep hb6)
    have HSh6 := Lib.hid (HSh5.out.keep hb6)
    obtain ⟨bo6, β6, μ6, hR6⟩ := HA6.out.real
    have hs6 := hR6.shape HG.out.ok
    have HS1 := Lib.hid (fsame_any hs6 HSh6.out (Nat.le_trans HG.out.e (by omega)))
    have Hs6 := Lib.hid hs6
    clear hb6 d0 d1 d2 d3 d4 d5 d6 hR6 hs6
    go_wp2_with fail
    refine HS1.out.mono ?_
    rintro e w7 ⟨rfl, hb7⟩
    have HA7 := Lib.hid (HA6.out.keep hb7)
    have HS2' := Lib.hid (fsame_any (HSh6.out.keep hb7) (Hs6.out.keep hb7) (Nat.le_trans HG.out.e (by omega)))
    clear hb7
    go_wp2_with fail
    refine HS2'.out.mono ?_
    rintro e w8 ⟨rfl, hb8⟩
    have HA8 := Lib.hid (HA7.out.keep hb8)
    clear hb8
    go_wp2_with fail
    refine (lives_any _ HA8.out.real.mxx).mono ?_
    rintro e wz ⟨rfl, hbz⟩
    go_wp2
    go_ret
    exact ⟨rfl, HBb.out.trans ((HA8.out.below.trans (hbz.mono HA8.out.below.size)).mono HBb.out.size)⟩

end Go.Proofs.YtiepdioaidglmaaGreatDoor
