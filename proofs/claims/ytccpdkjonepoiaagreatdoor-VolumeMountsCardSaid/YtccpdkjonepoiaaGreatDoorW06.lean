/- Walk: the log's records, none. -/
import Derived.Test.YtccpdkjonepoiaaGreatDoorW05
set_option linter.unusedVariables false
set_option linter.unusedSimpArgs false
set_option linter.unusedSectionVars false
namespace Go.Proofs.YtccpdkjonepoiaaGreatDoor
open Go.RowKit Go.Shelf

attribute [local go_sem] Oper.semAt_some

set_option maxHeartbeats 8000000 in
set_option maxRecDepth 100000 in
theorem each_zero {g m K : Nat} {S : List UInt8} {F : Nat → Prop} (fv : Value) (w : World) (hM : MemF m S K w F) (hL : LogAt w g m 2688 4096) (hS : S.length = 23168) (he : Gd.part S 2688 8 = Gd.le 0 8) :
    Calls Tryz.prog 85 #[.pointer (some ⟨g, 0, none⟩), fv] w fun e w' => e = .returned (.int .i64 0) ∧ Below w.heap.size w w' := by
  have hbd := (Below.refl w.heap.size w).drew
  have hMd := (MemF.held m S K).below hM hbd
  have hLd : LogAt w.drew g m 2688 4096 := (hbd.block g (lt_get hL)).trans hL
  have HE := Lib.hid (end_any (N := 0) (by omega) w.drew hMd hLd hS he)
  have HLo : Hid (∀ W, Below w.drew.heap.size w.drew W → Calls Tryz.prog 18 #[.pointer (some ⟨m, 0, none⟩), .int .i64 2696, .int .i64 0] W (Loads W [])) := Lib.hid fun W hb => by
    have := mload_any 2696 0 W ((MemF.held m S K).below hMd hb) (by omega) (by omega)
    exact this
  have HLg := Lib.hid hLd
  have HBd := Lib.hid hbd
  obtain ⟨c0, c1, c2⟩ := cell2 hLd
  clear hM hL he hMd hLd hbd
  go_enter Tryz.func85, Tryz.ntmps85
  go_wp2
  go_region_with (first | (go_at_call 18; refine (HLo.out _ HB1.out).mono ?_; rintro e w2 ⟨v2, rfl, ho2, hb2⟩; have HO2 := Lib.hid ho2; have HB2 := Lib.hid (HB1.out.trans (hb2.mono HB1.out.size)); clear ho2 hb2) | (go_at_call 125; refine HE.out.mono ?_; rintro e w1 ⟨rfl, hb1⟩; have HB1 := Lib.hid hb1; obtain ⟨d0, d1, d2⟩ := cell2 ((hb1.block g (lt_get HLg.out)).trans HLg.out); clear hb1))
  all_goals
    obtain ⟨A2, c2', rfl, -⟩ := HO2.out.at_
    have HW : Hid (Below w.heap.size w w2) := Lib.hid (HBd.out.trans (HB2.out.mono HBd.out.size))
    clear HE HLo HO2 HLg
    try simp only [Exit.then]
    (first | (refine (by assumption : ∀ (a : Act) (w : World), _) _ _ ?_) | skip)
    go_upto_region 3 with fail
    go_loopw [5, 7] (fun y u wx => y = .slice A2 0 c2' ∧ u = .int .i64 0 ∧ wx = w2) (fun _ _ _ => 0)
    case atStart => exact ⟨rfl, rfl, rfl⟩
    case round =>
      obtain ⟨rfl, rfl, rfl⟩ := hrel
      go_wp2
      go_ret
      exact ⟨rfl, HW.out⟩

end Go.Proofs.YtccpdkjonepoiaaGreatDoor
