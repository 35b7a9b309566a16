/- What the rows of this seat share: the world in which the listed tables lie, and the witness. -/
import Derived.Test.YtckoobkjpndgnaaGreatDoorRow
import Derived.Test.YtckoobkjpndgnaaGreatDoorW15
import Derived.Deep.DeepHandedRow
import Derived.Lay
import Derived.LaidMore
import Derived.SevenTiedAt
set_option linter.unusedVariables false
set_option linter.unusedSimpArgs false
set_option linter.unusedSectionVars false
namespace Go.Proofs.YtckoobkjpndgnaaGreatDoor
open Go.ChangeShapes Go.WideShapes Go.ChangeAt Go.RowKit
theorem own:ownKnob Tryz.prog.godebug=none:=by kernel_rfl
theorem laidOut:laidOutB Tryz.prog=true:=by kernel_rfl
def laidHere:List (String×DataW Unit):=Rows.metaEndsRow.laid
theorem mx_of_shaped{W:World}(h:W.ShapedOpen Tryz.prog):Mx W:=Tryz.laysM146.s1_3 W h
set_option maxRecDepth 100000 in
theorem shapedHere(os:Os)(args:Array Value):((World.laidAll Tryz.prog os laidHere).forCall (fun _ _=>0) ⟨#[],args,[]⟩).Shaped Tryz.checked.prog:=
 World.shaped_of_ZipB (by kernel_rfl) (by kernel_rfl)
set_option maxRecDepth 100000 in
theorem metHere(os:Os)(args:Array Value):laidMetH Tryz.prog laidHere ((World.laidAll Tryz.prog os laidHere).forCall (fun _ _=>0) ⟨#[],args,[]⟩).memory:=by
 rw[MakeChecks.laidMetH_plain _ _ _ (by kernel_rfl)]
 exact laidMet_laidAll _ (by kernel_rfl) (by kernel_rfl)
theorem witness_laid{H:Type}{enc:TypeId×Value→H}{C:Checked}{os:Os}{f:FuncId}{fn:Func}{s:OpenSpec}{conds:List PathCond}{apart:Bool}{laid:List (String×DataW Unit)}(w0:World)(args:Array Value)(hos:w0.os=os)
 (hsh:(w0.forCall (fun _ _=>0) ⟨#[],args,[]⟩).Shaped C.prog)
 (hok:Input.okWideB C.prog (w0.forCall (fun _ _=>0) ⟨#[],args,[]⟩) f ⟨#[],args,[]⟩=true)
 (hrow:s.preRow enc C.prog fn conds apart laid (w0.forCall (fun _ _=>0) ⟨#[],args,[]⟩).memory args):
 ∃(w:World) (tape:Tape) (i:Input),w.os=os∧(w.forCall tape i).Shaped C.prog∧i.vars=[]∧Input.okWide C.prog (w.forCall tape i) .any w.heap.size f i∧
  s.preRow enc C.prog fn conds apart laid (w.forCall tape i).memory i.args∧({}:Assume).holds C.prog (lone (Frame.enter C.prog f i.args .normal) [] (w.forCall tape i)):=
 ⟨w0,fun _ _=>0,⟨#[],args,[]⟩,hos,hsh,(Input.okWide_of_okWideB (base:=0) hok).1,(Input.okWide_of_okWideB hok).2,hrow,by
  simp only[Assume.holds]
  exact⟨by simp,by simp,fun _=>Modest.zero,by simp,by simp⟩⟩
end Go.Proofs.YtckoobkjpndgnaaGreatDoor
