/- FilesChanges and FilesTwice: for every text and every record the law answers true. No condition. -/
import Derived.Test.YtoadbipcfolheaaFilesLaw
import Derived.Test.YtoadbipcfolheaaRow
namespace Go.Proofs.Ytoadbipcfolheaa
open Go.ChangeShapes Go.WideShapes Go.ChangeAt Go.RowKit
open Go.ChangeMaps (open_string)

theorem own : ownKnob Try.prog.godebug = none := by kernel_rfl
theorem laidOut : laidOutB Try.prog = true := by kernel_rfl
theorem cells23 : Try.prog.cellsOf 23 = 5 := by kernel_rfl

/-- the two arguments -/
theorem open_two {H : Type} {enc : TypeId × Value → H} {W : World} {base : Nat} {args : Array Value} {ds : List (DataW H)} {p : List MemPlace}
    (hval : ∀ (j : Nat) t v, ([9, 23] : List TypeId)[j]? = some t → args[j]? = some v → Value.okWide Try.prog W .any base t v)
    (hA : DataW.TrodAll enc Try.prog W 0 (fun _ => true) true [9, 23] args.toList ds p) :
    ∃ (s : ByteArray) (call inode : Int) (tr : Bool) (off : Int) (d : ByteArray), args = #[.string s, recV call inode tr off d] ∧ d.size ≤ 9223372036854775807 ∧ ds.length = 2 := by
  obtain ⟨v0, v1, d0, d1, p0, p1, rfl, rfl, rfl, h0, h1⟩ := trodAll_two hA
  obtain ⟨s, rfl, rfl, rfl, ws⟩ := open_string Try.underlying9 (hval 0 _ v0 rfl rfl) h0
  obtain ⟨c0, c1, c2, c3, c4, y0, y1, y2, y3, y4, n, rfl, rfl, rfl, g0, g1, g2, g3, g4⟩ := open_agg5 Try.underlying23 (by kernel_rfl) cells23 (hval 1 _ v1 rfl rfl) h1
  obtain ⟨a0, e0, rfl, wa⟩ := DataW.trod_int Try.underlying3 g0
  obtain ⟨a1, e1, rfl, wb⟩ := DataW.trod_int Try.underlying3 g1
  obtain ⟨a2, e2, rfl⟩ := DataW.trod_bool Try.underlying4 g2
  obtain ⟨a3, e3, rfl, wd⟩ := DataW.trod_int Try.underlying3 g3
  obtain ⟨a4, e4, rfl, we⟩ := DataW.trod_string Try.underlying9 g4
  simp at e0 e1 e2 e3 e4
  subst e0 e1 e2 e3 e4
  unfold maxLen at we
  exact ⟨s, a0, a1, a2, a3, a4, rfl, we, rfl⟩

theorem contractChanges (H : Type) (enc : TypeId × Value → H) (W : World) (base : Nat) (args : Array Value) (ds gs : List (DataW H)) (before : List MemPlace)
    (hval : ∀ (j : Nat) t v, Try.f3.params[j]? = some t → args[j]? = some v → Value.okWide Try.prog W .any base t v)
    (hW : DataW.Whole enc Try.prog Try.f3.params.toList Rows.filesChangesSpec.vars false W args.toList ds gs before) :
    Calls Try.prog 3 args W fun e W' => ∃ v, e = .returned v ∧ Rows.filesChangesSpec.post enc Try.prog Try.f3 false true false false W args v W' := by
  have hW' := hW
  obtain ⟨p, q, hA0, hV, rfl, _, _⟩ := hW
  obtain ⟨rfl, rfl⟩ := trodVars_none hV
  obtain ⟨s, call, inode, tr, off, d, rfl, hd, hds⟩ := open_two (fun j t v h1 h2 => hval j t v (by rw [Try.params3]; simpa using h1) h2) hA0
  match ds, hds with
  | [d0, d1], _ =>
    refine (changes_any s call inode tr off d W hd).mono fun e W' ⟨he, hb⟩ => ⟨_, he, ?_⟩
    exact law_post laidOut (by kernel_rfl) (by kernel_rfl) Try.underlying4 rfl rfl hW' hb

theorem contractTwice (H : Type) (enc : TypeId × Value → H) (W : World) (base : Nat) (args : Array Value) (ds gs : List (DataW H)) (before : List MemPlace)
    (hval : ∀ (j : Nat) t v, Try.f4.params[j]? = some t → args[j]? = some v → Value.okWide Try.prog W .any base t v)
    (hW : DataW.Whole enc Try.prog Try.f4.params.toList Rows.filesTwiceSpec.vars false W args.toList ds gs before) :
    Calls Try.prog 4 args W fun e W' => ∃ v, e = .returned v ∧ Rows.filesTwiceSpec.post enc Try.prog Try.f4 false true false false W args v W' := by
  have hW' := hW
  obtain ⟨p, q, hA0, hV, rfl, _, _⟩ := hW
  obtain ⟨rfl, rfl⟩ := trodVars_none hV
  obtain ⟨s, call, inode, tr, off, d, rfl, hd, hds⟩ := open_two (fun j t v h1 h2 => hval j t v (by rw [Try.params4]; simpa using h1) h2) hA0
  match ds, hds with
  | [d0, d1], _ =>
    refine (twice_any s call inode tr off d W hd).mono fun e W' ⟨he, hb⟩ => ⟨_, he, ?_⟩
    exact law_post laidOut (by kernel_rfl) (by kernel_rfl) Try.underlying4 rfl rfl hW' hb

set_option maxRecDepth 100000 in
theorem liftedChanges (os : Os) (started : os.Started) (H : Type) (enc : TypeId × Value → H) :
    ReturnsInHanded {} Try.checked os 3 .any (Rows.filesChangesSpec.pre6 enc Try.prog Try.f3 Rows.filesChangesRow.domain false) (Rows.filesChangesSpec.post enc Try.prog Try.f3 false true false false) := by
  refine returnsInHanded_of_change (C := Try.checked) own started (by kernel_rfl) Try.func3
    (ChangeSpec.witness6 (enc := enc) (C := Try.checked) false ⟨#[], #[.string ⟨#[]⟩, recV 0 0 false 0 ⟨#[]⟩], []⟩ 8 (by kernel_rfl) (by kernel_rfl) (by kernel_rfl) (by kernel_rfl)) ?_
  intro W base args ds gs before hval hW _ _
  exact contractChanges H enc W base args ds gs before hval hW
set_option maxRecDepth 100000 in
theorem liftedTwice (os : Os) (started : os.Started) (H : Type) (enc : TypeId × Value → H) :
    ReturnsInHanded {} Try.checked os 4 .any (Rows.filesTwiceSpec.pre6 enc Try.prog Try.f4 Rows.filesTwiceRow.domain false) (Rows.filesTwiceSpec.post enc Try.prog Try.f4 false true false false) := by
  refine returnsInHanded_of_change (C := Try.checked) own started (by kernel_rfl) Try.func4
    (ChangeSpec.witness6 (enc := enc) (C := Try.checked) false ⟨#[], #[.string ⟨#[]⟩, recV 0 0 false 0 ⟨#[]⟩], []⟩ 8 (by kernel_rfl) (by kernel_rfl) (by kernel_rfl) (by kernel_rfl)) ?_
  intro W base args ds gs before hval hW _ _
  exact contractTwice H enc W base args ds gs before hval hW

theorem changes_holds : Rows.FilesChangesSaid :=
  OpenClaim.holds_of_wide 3 Try.f3 rfl rfl rfl rfl rfl rfl rfl ⟨rfl, rfl, rfl, rfl, rfl⟩ rfl rfl rfl rfl rfl (by kernel_rfl) Try.func3 (by kernel_rfl)
    (of_decide_eq_true (by kernel_rfl)) (by unfold Func.isWrapper; first | (rw [if_pos (by decide +kernel)]; kernel_rfl) | (rw [if_neg (by decide +kernel)]; exact ⟨rfl, rfl⟩))
    (fun os started H enc _ => liftedChanges os started H enc)
theorem twice_holds : Rows.FilesTwiceSaid :=
  OpenClaim.holds_of_wide 4 Try.f4 rfl rfl rfl rfl rfl rfl rfl ⟨rfl, rfl, rfl, rfl, rfl⟩ rfl rfl rfl rfl rfl (by kernel_rfl) Try.func4 (by kernel_rfl)
    (of_decide_eq_true (by kernel_rfl)) (by unfold Func.isWrapper; first | (rw [if_pos (by decide +kernel)]; kernel_rfl) | (rw [if_neg (by decide +kernel)]; exact ⟨rfl, rfl⟩))
    (fun os started H enc _ => liftedTwice os started H enc)
#print axioms changes_holds
#print axioms twice_holds
end Go.Proofs.Ytoadbipcfolheaa
