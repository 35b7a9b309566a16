/- Walks: the law PosixFds: a call of one client changes no other one's descriptors. -/
import Derived.Test.YtiepdioaidglmaaGreatDoorPosPlayed
import Derived.Test.YtiepdioaidglmaaGreatDoorPosLives
import Derived.Deep.CutRange
set_option linter.unusedVariables false
set_option linter.unusedSimpArgs false
namespace Go.Proofs.YtiepdioaidglmaaGreatDoor
open Go.RowKit

theorem MxX.keep [Inhabited XBox] {w w' : World} (h : MxX w) (hb : Below w.heap.size w w') : MxX w' := by
  refine ⟨h.1.keep hb, ?_⟩
  obtain ⟨m, hm⟩ := h.1
  have hlt : maxB < w.heap.size := World.block_lt_of_cell? w ⟨maxB, 0, none⟩ hm
  exact (hb.block maxB hlt).trans h.2

set_option maxHeartbeats 8000000 in
set_option maxRecDepth 100000 in
theorem law_fds [Inhabited XBox] (A : Option Addr) (L : List Ask) (c : Nat) (cl kind flags fd off n : Int) (p p2 data : ByteArray) (w : World) (hx : MxX w) (hlen : L.length ≤ 9223372036854775807) (hA : Asks w A L) (hI : ∀ a ∈ L, I64 a.cl ∧ I64 a.fd) (hcl : I64 cl) (hfd : I64 fd) :
    Calls Tryz.prog 5 #[.slice A L.length c, .int .i64 cl, callV kind p p2 flags fd off n data] w fun e w' => e = .returned (.bool true) ∧ Below w.heap.size w w' := by
  obtain ⟨wb, hwb⟩ : ∃ v, v = w.alloc (.cells #[.int .i64 kind, .string p, .string p2, .int .i64 flags, .int .i64 fd, .int .i64 off, .int .i64 n, .string data] 38) := ⟨_, rfl⟩
  have hbb : Below w.heap.size w wb := by rw [hwb]; exact (Below.refl _ _).alloc (Nat.le_refl _) _
  have hbox : wb.heap[w.heap.size]? = some (.cells #[.int .i64 kind, .string p, .string p2, .int .i64 flags, .int .i64 fd, .int .i64 off, .int .i64 n, .string data] 38 (0, 0)) := by
    rw [hwb]
    exact heap_alloc_new _ _
  have hlt : w.heap.size < wb.heap.size := (Array.getElem?_eq_some_iff.1 hbox).1
  have HP := Lib.hid (played_any A L c 30 wb (by omega) (hx.keep hbb) hlen (hA.keep hbb) hI)
  have HWb := Lib.hid hwb
  have HBb := Lib.hid hbb
  have HBox := Lib.hid hbox
  have HLt := Lib.hid hlt
  have HCl := Lib.hid hcl
  have HFd := Lib.hid hfd
  clear hx hA hI hwb hbb hbox hlt hcl hfd
  unfold callV
  go_enter Tryz.func5, Tryz.ntmps5
  go_wp2_with fail
  rw [← HWb.out]
  refine HP.out.mono ?_
  rintro e w1 ⟨pr, rr, S, F, G, rfl, hB, hG, hF⟩
  have HB1 := Lib.hid hB
  have HG := Lib.hid hG
  have HF := Lib.hid hF
  obtain ⟨k0, k1, k2, k3, k4, k5, k6, k7⟩ := call8 ((hB.below.block w.heap.size HLt.out).trans HBox.out)
  clear hB hF hG
  go_wp2_with fail
  refine (cut_any kind flags fd off n p p2 data w1).mono ?_
  rintro e w2 ⟨rfl, hb2⟩
  have HB2 := Lib.hid (HB1.out.keep hb2)
  clear hb2 k0 k1 k2 k3 k4 k5 k6 k7
  obtain ⟨R, hR⟩ : ∃ R, Pz.doA S cl kind (cutB p 60).data.toList (cutB p2 60).data.toList flags fd off n (cutB data 100).data.toList = R := ⟨_, rfl⟩
  have HOf : Hid (∀ k x, k ≠ cl → Pz.ofd R.1.O k x = Pz.ofd S.O k x) := Lib.hid (by
    intro k x hk
    rw [← hR]
    exact Pz.do_ofd HG.out hk x _ _ _ _ _ _ _ _)
  have HGR : Hid (Pz.Good 203 R.1) := Lib.hid (by rw [← hR]; exact (Pz.do_good HG.out HF.out.few _ _ _ _ _ _ _ _ _).1)
  have HDo := Lib.hid (fdo_any pr S cl kind flags fd off n (cutB p 60) (cutB p2 60) (cutB data 100) w2 F HCl.out HFd.out (Nat.le_trans (cutB_size _ _) (by omega)) (Nat.le_trans (cutB_size _ _) (by omega)) (HG.out.mono (by omega)) HB2.out.real)
  rw [hR] at HDo
  clear hR
  go_wp2_with fail
  refine HDo.out.mono ?_
  rintro e w3 ⟨A3, c3, rfl, -, hi3, ho3⟩
  have HB3 := Lib.hid (HB2.out.doReal hi3 ho3)
  clear hi3 ho3 HDo
  unfold repV callV
  go_wp2
  go_loopw [10] (fun v wr => ∃ (k : Nat) (F : Nat → Prop), v = .int .i64 k ∧ 1 ≤ k ∧ k ≤ 9 ∧ Hid (Both wb pr rr R.1 S F G wr)) (fun v _ => 9 - (intOf v).toNat)
  case atStart => exact ⟨1, _, rfl, by omega, by omega, HB3⟩
  case round =>
    obtain ⟨k, F4, rfl, hk1, hk9, HB4⟩ := hrel
    by_cases h8 : k ≤ 8
    · have h8' : (k : Int) ≤ 8 := by omega
      by_cases hc : (k : Int) = cl
      · go_wp2
        go_roundw
        case rel => exact ⟨k + 1, F4, by go_num, by omega, by omega, HB4⟩
        case measure => simp [intOf]; omega
      · go_wp2
        go_loopw [11] (fun v w5 => ∃ (f : Nat) (F : Nat → Prop), v = .int .i64 f ∧ f ≤ 8 ∧ Hid (Both wb pr rr R.1 S F G w5)) (fun v _ => 8 - (intOf v).toNat)
        case atStart => exact ⟨0, F4, rfl, by omega, HB4⟩
        case round =>
          obtain ⟨f, F5, rfl, hf8, HB5⟩ := hrel
          by_cases h7 : f < 8
          · have h7' : (f : Int) < 8 := by omega
            have Hof := Lib.hid (HOf.out (k : Int) (f : Int) hc)
            go_wp2_with fail
            refine (of_any 0 rr S k f _ (Nat.le_trans HG.out.o (by omega)) HB5.out.ref.is).mono ?_
            rintro e w6 ⟨rfl, hb6⟩
            have HB6 := Lib.hid (HB5.out.keep hb6)
            clear hb6
            obtain ⟨z, hz⟩ : ∃ z, z = Pz.ofd S.O k f := ⟨_, rfl⟩
            rw [← hz]
            have Hz := Lib.hid hz
            clear hz
            go_wp2_with fail
            refine (fdo_any pr R.1 k 6 0 f 0 0 ⟨#[]⟩ ⟨#[]⟩ ⟨#[]⟩ _ F5 (i64_small (by omega) (by omega)) (i64_small (by omega) (by omega)) (by decide) (by decide) (HGR.out.mono (by omega)) HB6.out.real).mono ?_
            rw [Pz.do_sync (by omega) (by omega), Hof.out, ← Hz.out]
            rintro e w7 ⟨A7, c7, rfl, -, hi7, ho7⟩
            have HB7 := Lib.hid (HB6.out.doReal hi7 ho7)
            clear hi7 ho7
            by_cases hzn : z < 0
            · rw [if_pos hzn]
              unfold repV
              have HB8 := Lib.hid (HB7.out.keep ((Below.refl _ _).alloc (Nat.le_refl _) (.cells (repC (Pz.er 16) A7 c7) 35)))
              unfold repC at HB8
              simp only [Pz.er, List.length_nil] at HB8 ⊢
              go_wp2
              go_roundw
              case rel => exact ⟨f + 1, by go_num, by omega, _, HB8⟩
              case measure => simp [intOf]; omega
            · rw [if_neg hzn]
              have hzn' : 0 ≤ z := by omega
              unfold repV
              have HB8 := Lib.hid (HB7.out.keep ((Below.refl _ _).alloc (Nat.le_refl _) (.cells (repC (Pz.er 0) A7 c7) 35)))
              unfold repC at HB8
              simp only [Pz.er, List.length_nil] at HB8 ⊢
              go_wp2
              go_roundw
              case rel => exact ⟨f + 1, by go_num, by omega, _, HB8⟩
              case measure => simp [intOf]; omega
          · have h7' : (8 : Int) ≤ f := by omega
            go_wp2
            go_roundw
            case rel => exact ⟨k + 1, F5, by go_num, by omega, by omega, HB5⟩
            case measure => simp [intOf]; omega
    · have h8' : (9 : Int) ≤ k := by omega
      go_wp2_with fail
      refine (lives_any _ HB4.out.real.mxx).mono ?_
      rintro e wz ⟨rfl, hbz⟩
      go_wp2
      go_ret
      exact ⟨rfl, HBb.out.trans ((HB4.out.below.trans (hbz.mono HB4.out.below.size)).mono HBb.out.size)⟩

end Go.Proofs.YtiepdioaidglmaaGreatDoor
