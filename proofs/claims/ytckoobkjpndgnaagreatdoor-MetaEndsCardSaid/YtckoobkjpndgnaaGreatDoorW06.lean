/- Walk: the log's records, none. -/
import Derived.Test.YtckoobkjpndgnaaGreatDoorW05
set_option linter.unusedVariables false
set_option linter.unusedSimpArgs false
set_option linter.unusedSectionVars false
set_option maxHeartbeats 8000000
set_option maxRecDepth 100000
namespace Go.Proofs.YtckoobkjpndgnaaGreatDoor
open Go.RowKit
open Lib(hid)
open Go.Proofs.Tryz
open Go.Shelf
attribute [local go_sem] Oper.semAt_some
theorem each_zero{g m K:Nat}{S:List UInt8}{F:Nat→Prop}(fv:Value)(w:World)(hM:MemF m S K w F)(hL:LogAt w g m 2688 4096)(hS:S.length=23168)(he:Gd.part S 2688 8=Gd.le 0 8):
 Calls prog 91 #[.pointer (some ⟨g,0,none⟩),fv] w fun e w'=>e= .returned (.int .i64 0)∧Below w.heap.size w w':=by
 have hbd:=(Below.refl w.heap.size w).drew;have hMd:=(MemF.held m S K).below hM hbd;have hLd:LogAt w.drew g m 2688 4096:=(hbd.block g (lt_get hL)).trans hL;have HE:=hid (end_any (N:=0) (by omega) w.drew hMd hLd hS he);have HLo:Hid (∀W,Below w.drew.heap.size w.drew W→Calls prog 80 #[.pointer (some ⟨m,0,none⟩),.int .i64 2696,.int .i64 0] W (Loads W [])):=hid fun W hb=>by
  have:=mload_any 2696 0 W ((MemF.held m S K).below hMd hb) (by omega) (by omega)
  exact this
 have HLg:=hid hLd;have HBd:=hid hbd;obtain⟨c0,c1,c2⟩:=cell2 hLd;clear hM hL he hMd hLd hbd;go_enter func91,ntmps91;go_wp2;go_region_with (first|(go_at_call 80;refine(HLo.o _ HB1.o).mono ?_;rintro e w2 ⟨v2,rfl,ho2,hb2⟩;have HO2:=hid ho2;have HB2:=HB1.t hb2;clear ho2 hb2)|(go_at_call 129;refine HE.o.mono ?_;rintro e w1 ⟨rfl,hb1⟩;have HB1:=hid hb1;obtain⟨d0,d1,d2⟩:=cell2 ((hb1.block g (lt_get HLg.o)).trans HLg.o);clear hb1))
 all_goals
  obtain⟨A2,c2',rfl,-⟩:=HO2.o.at_;have HW:Hid (Below w.heap.size w w2):=hid (HBd.o.trans (HB2.o.mono HBd.o.size));clear HE HLo HO2 HLg;try simp only[Exit.then]
  (first|(refine(by assumption:∀(a:Act) (w:World),_) _ _ ?_)|skip)
  go_upto_region 3 with fail
  go_loopw[5,7] (fun y u wx=>y= .slice A2 0 c2'∧u= .int .i64 0∧wx=w2) (fun _ _ _=>0)
  case atStart=>exact⟨rfl,rfl,rfl⟩
  case round=>
   obtain⟨rfl,rfl,rfl⟩:=hrel;go_wp2;go_ret
   exact⟨rfl,HW.o⟩
end Go.Proofs.YtckoobkjpndgnaaGreatDoor
