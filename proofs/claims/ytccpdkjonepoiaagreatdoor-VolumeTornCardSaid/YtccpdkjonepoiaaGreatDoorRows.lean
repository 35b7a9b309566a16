/-
  NARROWER THAN 'FOR EVERY INPUT', by the rows' own cells (each row's printed sentence says how): VolumeMounts: laid · VolumeTorn: laid · VolumeCounts: laid · VolumePlays: laid · VolumeTakes: laid · VolumeRecovers: laid.
  DERIVED. THE GIVEN ROWS OF THIS SEAT. 6 by the template 'for every input the law returns true; each argument reads behind the call as it read before'; 0 by the template 'total and deterministic' (their statements: YtccpdkjonepoiaaGreatDoorTotals.lean).
  GIVEN WITH THE SEED: the statements are not yours to turn. If you find one false, say at which input.
  Laid BY PROGRAM, IN A SANDBOX (cutbox-rows.mjs): the forced cells as the released guide's own fill.sh prints them over the translation 0ef620e08f11bcfc… (all of the seat's roots in one cut). By AI agents, Wed Nov 11 2026. No macro, syntax, notation, axiom, sorry.
-/
import Derived.Test.YtccpdkjonepoiaaGreatDoorChecked
import GoSem.PinnedTables
import GoSem.Claim
import GoSem.ClaimJoined
import GoSem.ClaimMapViews
import Derived.JoinedTies
import Derived.KernelRfl
namespace Go.Proofs.YtccpdkjonepoiaaGreatDoor
/- THE CELL 'sum', in the pinned program and in every row, IS THE sha256 OF THE DUMP (.gsa) THAT YtccpdkjonepoiaaGreatDoorProg.lean LOADS. Nothing in Lean hashes anything: it is a label: what it is worth is what the hold of that sum in a sandbox is worth. -/
noncomputable def Tryz.pinned : Pinned := { name := "ytccpdkjonepoiaagreatdoor", sum := "0ef620e08f11bcfcee340b84474326d8064558ace93aabbd8abf88cd8e2ab664", checked := Tryz.checked }
namespace Rows
def none {H : Type} : Left H := { results := [], args := [] }

/- WHAT THE LISTED PACKAGE-LEVEL VARIABLES READ AS WHEN THE CALL BEGINS. Each datum BY PROGRAM (the guide's laid-datum.mjs) off the statement by which the dump's own 'gosem.cut.vars' lays the variable. In a bare row this is a premise. The card (YtccpdkjonepoiaaGreatDoorCards.lean) ties it to the program's text. -/
def laid_unicode_utf8_acceptRanges {H : Type} : DataW H := .agg [.agg [.lit (.int .u8 128), .lit (.int .u8 191)], .agg [.lit (.int .u8 160), .lit (.int .u8 191)], .agg [.lit (.int .u8 128), .lit (.int .u8 159)], .agg [.lit (.int .u8 144), .lit (.int .u8 191)], .agg [.lit (.int .u8 128), .lit (.int .u8 143)], .agg [.lit (.int .u8 0), .lit (.int .u8 0)], .agg [.lit (.int .u8 0), .lit (.int .u8 0)], .agg [.lit (.int .u8 0), .lit (.int .u8 0)], .agg [.lit (.int .u8 0), .lit (.int .u8 0)], .agg [.lit (.int .u8 0), .lit (.int .u8 0)], .agg [.lit (.int .u8 0), .lit (.int .u8 0)], .agg [.lit (.int .u8 0), .lit (.int .u8 0)], .agg [.lit (.int .u8 0), .lit (.int .u8 0)], .agg [.lit (.int .u8 0), .lit (.int .u8 0)], .agg [.lit (.int .u8 0), .lit (.int .u8 0)], .agg [.lit (.int .u8 0), .lit (.int .u8 0)]]
/-- One of Go's own tables, pinned by name: the form's constant. -/
def laid_unicode_utf8_first : DataW Unit := Go.Pinned.utf8First

/-- 'commonslaw17.VolumeMounts': WHATEVER THE INPUT: true; the input reads as it did. -/
def volumeMountsSpec : ChangeSpec := { name := "volumeMounts", fn := fun _ => fun
  | [d1, d2, d3] => { results := [.lit (.bool true)], args := [d1, d2, d3] }
  | _ => none }
def volumeMountsRow : OpenClaim := { program := "ytccpdkjonepoiaagreatdoor", sum := "0ef620e08f11bcfcee340b84474326d8064558ace93aabbd8abf88cd8e2ab664", func := "commons/commonslaw17.VolumeMounts", spec := "volumeMounts", inPlace := ["internal/bytealg.CountString", "internal/bytealg.IndexByteString", "internal/bytealg.IndexString"], unfollowed := true, recurses := true, named := ["unicode/utf8.first", "unicode/utf8.acceptRanges", "internal/bytealg.MaxLen"], apart := false, laid := [("unicode/utf8.acceptRanges", laid_unicode_utf8_acceptRanges), ("unicode/utf8.first", laid_unicode_utf8_first)] }
def VolumeMountsSaid : Prop := volumeMountsRow.holds Tryz.pinned (OpenSpec.ofChange volumeMountsSpec)

/-- ITS FALSE NEIGHBOUR: 'it returns false'. Refute it at one input. -/
def volumeMountsWrong : ChangeSpec := { name := "volumeMounts", fn := fun _ => fun
  | [d1, d2, d3] => { results := [.lit (.bool false)], args := [d1, d2, d3] }
  | _ => none }
def VolumeMountsWrongFalsely : Prop := volumeMountsRow.holds Tryz.pinned (OpenSpec.ofChange volumeMountsWrong)

/-- 'commonslaw17.VolumeTorn': WHATEVER THE INPUT: true; the input reads as it did. -/
def volumeTornSpec : ChangeSpec := { name := "volumeTorn", fn := fun _ => fun
  | [d1, d2, d3] => { results := [.lit (.bool true)], args := [d1, d2, d3] }
  | _ => none }
def volumeTornRow : OpenClaim := { program := "ytccpdkjonepoiaagreatdoor", sum := "0ef620e08f11bcfcee340b84474326d8064558ace93aabbd8abf88cd8e2ab664", func := "commons/commonslaw17.VolumeTorn", spec := "volumeTorn", inPlace := ["internal/bytealg.CountString", "internal/bytealg.IndexByteString", "internal/bytealg.IndexString", "internal/abi.NoEscape", "internal/bytealg.MakeNoZero"], unfollowed := true, recurses := true, named := ["unicode/utf8.first", "unicode/utf8.acceptRanges", "internal/bytealg.MaxLen"], apart := false, laid := [("unicode/utf8.acceptRanges", laid_unicode_utf8_acceptRanges), ("unicode/utf8.first", laid_unicode_utf8_first)] }
def VolumeTornSaid : Prop := volumeTornRow.holds Tryz.pinned (OpenSpec.ofChange volumeTornSpec)

/-- ITS FALSE NEIGHBOUR: 'it returns false'. Refute it at one input. -/
def volumeTornWrong : ChangeSpec := { name := "volumeTorn", fn := fun _ => fun
  | [d1, d2, d3] => { results := [.lit (.bool false)], args := [d1, d2, d3] }
  | _ => none }
def VolumeTornWrongFalsely : Prop := volumeTornRow.holds Tryz.pinned (OpenSpec.ofChange volumeTornWrong)

/-- 'commonslaw17.VolumeCounts': WHATEVER THE INPUT: true; the input reads as it did. -/
def volumeCountsSpec : ChangeSpec := { name := "volumeCounts", fn := fun _ => fun
  | [d] => { results := [.lit (.bool true)], args := [d] }
  | _ => none }
def volumeCountsRow : OpenClaim := { program := "ytccpdkjonepoiaagreatdoor", sum := "0ef620e08f11bcfcee340b84474326d8064558ace93aabbd8abf88cd8e2ab664", func := "commons/commonslaw17.VolumeCounts", spec := "volumeCounts", inPlace := ["internal/bytealg.CountString", "internal/bytealg.IndexByteString", "internal/bytealg.IndexString", "internal/abi.NoEscape", "internal/bytealg.MakeNoZero"], unfollowed := true, recurses := true, named := ["unicode/utf8.first", "unicode/utf8.acceptRanges", "internal/bytealg.MaxLen"], apart := false, laid := [("unicode/utf8.acceptRanges", laid_unicode_utf8_acceptRanges), ("unicode/utf8.first", laid_unicode_utf8_first)] }
def VolumeCountsSaid : Prop := volumeCountsRow.holds Tryz.pinned (OpenSpec.ofChange volumeCountsSpec)

/-- ITS FALSE NEIGHBOUR: 'it returns false'. Refute it at one input. -/
def volumeCountsWrong : ChangeSpec := { name := "volumeCounts", fn := fun _ => fun
  | [d] => { results := [.lit (.bool false)], args := [d] }
  | _ => none }
def VolumeCountsWrongFalsely : Prop := volumeCountsRow.holds Tryz.pinned (OpenSpec.ofChange volumeCountsWrong)

/-- 'commonslaw17.VolumePlays': WHATEVER THE INPUT: true; the input reads as it did. -/
def volumePlaysSpec : ChangeSpec := { name := "volumePlays", fn := fun _ => fun
  | [d] => { results := [.lit (.bool true)], args := [d] }
  | _ => none }
def volumePlaysRow : OpenClaim := { program := "ytccpdkjonepoiaagreatdoor", sum := "0ef620e08f11bcfcee340b84474326d8064558ace93aabbd8abf88cd8e2ab664", func := "commons/commonslaw17.VolumePlays", spec := "volumePlays", inPlace := ["internal/bytealg.CountString", "internal/bytealg.IndexByteString", "internal/bytealg.IndexString", "internal/abi.NoEscape", "internal/bytealg.MakeNoZero"], unfollowed := true, recurses := true, named := ["unicode/utf8.first", "unicode/utf8.acceptRanges", "internal/bytealg.MaxLen"], apart := false, laid := [("unicode/utf8.acceptRanges", laid_unicode_utf8_acceptRanges), ("unicode/utf8.first", laid_unicode_utf8_first)] }
def VolumePlaysSaid : Prop := volumePlaysRow.holds Tryz.pinned (OpenSpec.ofChange volumePlaysSpec)

/-- ITS FALSE NEIGHBOUR: 'it returns false'. Refute it at one input. -/
def volumePlaysWrong : ChangeSpec := { name := "volumePlays", fn := fun _ => fun
  | [d] => { results := [.lit (.bool false)], args := [d] }
  | _ => none }
def VolumePlaysWrongFalsely : Prop := volumePlaysRow.holds Tryz.pinned (OpenSpec.ofChange volumePlaysWrong)

/-- 'commonslaw17.VolumeTakes': WHATEVER THE INPUT: true; the input reads as it did. -/
def volumeTakesSpec : ChangeSpec := { name := "volumeTakes", fn := fun _ => fun
  | [d1, d2] => { results := [.lit (.bool true)], args := [d1, d2] }
  | _ => none }
def volumeTakesRow : OpenClaim := { program := "ytccpdkjonepoiaagreatdoor", sum := "0ef620e08f11bcfcee340b84474326d8064558ace93aabbd8abf88cd8e2ab664", func := "commons/commonslaw17.VolumeTakes", spec := "volumeTakes", inPlace := ["internal/bytealg.CountString", "internal/bytealg.IndexByteString", "internal/bytealg.IndexString", "internal/abi.NoEscape", "internal/bytealg.MakeNoZero"], unfollowed := true, recurses := true, named := ["unicode/utf8.first", "unicode/utf8.acceptRanges", "internal/bytealg.MaxLen"], apart := false, laid := [("unicode/utf8.acceptRanges", laid_unicode_utf8_acceptRanges), ("unicode/utf8.first", laid_unicode_utf8_first)] }
def VolumeTakesSaid : Prop := volumeTakesRow.holds Tryz.pinned (OpenSpec.ofChange volumeTakesSpec)

/-- ITS FALSE NEIGHBOUR: 'it returns false'. Refute it at one input. -/
def volumeTakesWrong : ChangeSpec := { name := "volumeTakes", fn := fun _ => fun
  | [d1, d2] => { results := [.lit (.bool false)], args := [d1, d2] }
  | _ => none }
def VolumeTakesWrongFalsely : Prop := volumeTakesRow.holds Tryz.pinned (OpenSpec.ofChange volumeTakesWrong)

/-- 'commonslaw17.VolumeRecovers': WHATEVER THE INPUT: true; the input reads as it did. -/
def volumeRecoversSpec : ChangeSpec := { name := "volumeRecovers", fn := fun _ => fun
  | [d1, d2, d3] => { results := [.lit (.bool true)], args := [d1, d2, d3] }
  | _ => none }
def volumeRecoversRow : OpenClaim := { program := "ytccpdkjonepoiaagreatdoor", sum := "0ef620e08f11bcfcee340b84474326d8064558ace93aabbd8abf88cd8e2ab664", func := "commons/commonslaw17.VolumeRecovers", spec := "volumeRecovers", inPlace := ["internal/bytealg.CountString", "internal/bytealg.IndexByteString", "internal/bytealg.IndexString", "internal/abi.NoEscape", "internal/bytealg.MakeNoZero"], unfollowed := true, recurses := true, named := ["unicode/utf8.first", "unicode/utf8.acceptRanges", "internal/bytealg.MaxLen"], apart := false, laid := [("unicode/utf8.acceptRanges", laid_unicode_utf8_acceptRanges), ("unicode/utf8.first", laid_unicode_utf8_first)] }
def VolumeRecoversSaid : Prop := volumeRecoversRow.holds Tryz.pinned (OpenSpec.ofChange volumeRecoversSpec)

/-- ITS FALSE NEIGHBOUR: 'it returns false'. Refute it at one input. -/
def volumeRecoversWrong : ChangeSpec := { name := "volumeRecovers", fn := fun _ => fun
  | [d1, d2, d3] => { results := [.lit (.bool false)], args := [d1, d2, d3] }
  | _ => none }
def VolumeRecoversWrongFalsely : Prop := volumeRecoversRow.holds Tryz.pinned (OpenSpec.ofChange volumeRecoversWrong)

/- THE SECOND FORM. 'bulk': how many values and letters a reading holds, each counted each time it is reached (what is shared counts as often as it is met; a slice's spare places count too). A statement '..UptoSaid' is the law's where the arguments, and the package variables that the reading takes, are together of bulk at most 1048576: NARROWER than '..Said'. Prove '..Said' where nothing that the law and all that it calls make is longer than what came in: it says more and counts as full. Else prove '..UptoSaid'. A law counts once. -/
mutual
def uptoBulk {H : Type} : DataW H → Nat
  | .lit (.string bytes) => bytes.length + 1
  | .lit _ => 1
  | .nil => 1
  | .ptr d => uptoBulk d + 1
  | .slice elems spare => uptoBulkAll elems + uptoBulkAll spare + 1
  | .agg parts => uptoBulkAll parts + 1
  | .iface _ d => uptoBulk d + 1
  | .map entries => uptoBulkEntries entries + 1
  | .held _ => 1
def uptoBulkAll {H : Type} : List (DataW H) → Nat
  | [] => 0
  | d :: r => uptoBulk d + uptoBulkAll r
def uptoBulkEntries {H : Type} : List (Lit × DataW H) → Nat
  | [] => 0
  | x :: r => uptoBulkEntry x + uptoBulkEntries r
def uptoBulkEntry {H : Type} : Lit × DataW H → Nat
  | (.string bytes, d) => bytes.length + uptoBulk d + 1
  | (_, d) => uptoBulk d + 1
 end
def uptoSmall : (H : Type) → List (DataW H) → Bool := fun _ ds => decide (uptoBulkAll ds ≤ 1048576)
def OpenSpec.upto (s : _root_.Go.ChangeSpec) : _root_.Go.OpenSpec := { _root_.Go.OpenSpec.ofChange s with cond := some uptoSmall }

/-- 'commonslaw17.VolumeMounts', WHERE WHAT IT READS IS OF BULK AT MOST 1048576: true; the input reads as it did. -/
def volumeMountsUptoRow : OpenClaim := { program := "ytccpdkjonepoiaagreatdoor", sum := "0ef620e08f11bcfcee340b84474326d8064558ace93aabbd8abf88cd8e2ab664", func := "commons/commonslaw17.VolumeMounts", spec := "volumeMounts", inPlace := ["internal/bytealg.CountString", "internal/bytealg.IndexByteString", "internal/bytealg.IndexString"], unfollowed := true, recurses := true, named := ["unicode/utf8.first", "unicode/utf8.acceptRanges", "internal/bytealg.MaxLen"], apart := false, laid := [("unicode/utf8.acceptRanges", laid_unicode_utf8_acceptRanges), ("unicode/utf8.first", laid_unicode_utf8_first)], narrowed := true }
def VolumeMountsUptoSaid : Prop := volumeMountsUptoRow.holds Tryz.pinned (OpenSpec.upto volumeMountsSpec)

/-- 'commonslaw17.VolumeTorn', WHERE WHAT IT READS IS OF BULK AT MOST 1048576: true; the input reads as it did. -/
def volumeTornUptoRow : OpenClaim := { program := "ytccpdkjonepoiaagreatdoor", sum := "0ef620e08f11bcfcee340b84474326d8064558ace93aabbd8abf88cd8e2ab664", func := "commons/commonslaw17.VolumeTorn", spec := "volumeTorn", inPlace := ["internal/bytealg.CountString", "internal/bytealg.IndexByteString", "internal/bytealg.IndexString", "internal/abi.NoEscape", "internal/bytealg.MakeNoZero"], unfollowed := true, recurses := true, named := ["unicode/utf8.first", "unicode/utf8.acceptRanges", "internal/bytealg.MaxLen"], apart := false, laid := [("unicode/utf8.acceptRanges", laid_unicode_utf8_acceptRanges), ("unicode/utf8.first", laid_unicode_utf8_first)], narrowed := true }
def VolumeTornUptoSaid : Prop := volumeTornUptoRow.holds Tryz.pinned (OpenSpec.upto volumeTornSpec)

/-- 'commonslaw17.VolumeCounts', WHERE WHAT IT READS IS OF BULK AT MOST 1048576: true; the input reads as it did. -/
def volumeCountsUptoRow : OpenClaim := { program := "ytccpdkjonepoiaagreatdoor", sum := "0ef620e08f11bcfcee340b84474326d8064558ace93aabbd8abf88cd8e2ab664", func := "commons/commonslaw17.VolumeCounts", spec := "volumeCounts", inPlace := ["internal/bytealg.CountString", "internal/bytealg.IndexByteString", "internal/bytealg.IndexString", "internal/abi.NoEscape", "internal/bytealg.MakeNoZero"], unfollowed := true, recurses := true, named := ["unicode/utf8.first", "unicode/utf8.acceptRanges", "internal/bytealg.MaxLen"], apart := false, laid := [("unicode/utf8.acceptRanges", laid_unicode_utf8_acceptRanges), ("unicode/utf8.first", laid_unicode_utf8_first)], narrowed := true }
def VolumeCountsUptoSaid : Prop := volumeCountsUptoRow.holds Tryz.pinned (OpenSpec.upto volumeCountsSpec)

/-- 'commonslaw17.VolumePlays', WHERE WHAT IT READS IS OF BULK AT MOST 1048576: true; the input reads as it did. -/
def volumePlaysUptoRow : OpenClaim := { program := "ytccpdkjonepoiaagreatdoor", sum := "0ef620e08f11bcfcee340b84474326d8064558ace93aabbd8abf88cd8e2ab664", func := "commons/commonslaw17.VolumePlays", spec := "volumePlays", inPlace := ["internal/bytealg.CountString", "internal/bytealg.IndexByteString", "internal/bytealg.IndexString", "internal/abi.NoEscape", "internal/bytealg.MakeNoZero"], unfollowed := true, recurses := true, named := ["unicode/utf8.first", "unicode/utf8.acceptRanges", "internal/bytealg.MaxLen"], apart := false, laid := [("unicode/utf8.acceptRanges", laid_unicode_utf8_acceptRanges), ("unicode/utf8.first", laid_unicode_utf8_first)], narrowed := true }
def VolumePlaysUptoSaid : Prop := volumePlaysUptoRow.holds Tryz.pinned (OpenSpec.upto volumePlaysSpec)

/-- 'commonslaw17.VolumeTakes', WHERE WHAT IT READS IS OF BULK AT MOST 1048576: true; the input reads as it did. -/
def volumeTakesUptoRow : OpenClaim := { program := "ytccpdkjonepoiaagreatdoor", sum := "0ef620e08f11bcfcee340b84474326d8064558ace93aabbd8abf88cd8e2ab664", func := "commons/commonslaw17.VolumeTakes", spec := "volumeTakes", inPlace := ["internal/bytealg.CountString", "internal/bytealg.IndexByteString", "internal/bytealg.IndexString", "internal/abi.NoEscape", "internal/bytealg.MakeNoZero"], unfollowed := true, recurses := true, named := ["unicode/utf8.first", "unicode/utf8.acceptRanges", "internal/bytealg.MaxLen"], apart := false, laid := [("unicode/utf8.acceptRanges", laid_unicode_utf8_acceptRanges), ("unicode/utf8.first", laid_unicode_utf8_first)], narrowed := true }
def VolumeTakesUptoSaid : Prop := volumeTakesUptoRow.holds Tryz.pinned (OpenSpec.upto volumeTakesSpec)

/-- 'commonslaw17.VolumeRecovers', WHERE WHAT IT READS IS OF BULK AT MOST 1048576: true; the input reads as it did. -/
def volumeRecoversUptoRow : OpenClaim := { program := "ytccpdkjonepoiaagreatdoor", sum := "0ef620e08f11bcfcee340b84474326d8064558ace93aabbd8abf88cd8e2ab664", func := "commons/commonslaw17.VolumeRecovers", spec := "volumeRecovers", inPlace := ["internal/bytealg.CountString", "internal/bytealg.IndexByteString", "internal/bytealg.IndexString", "internal/abi.NoEscape", "internal/bytealg.MakeNoZero"], unfollowed := true, recurses := true, named := ["unicode/utf8.first", "unicode/utf8.acceptRanges", "internal/bytealg.MaxLen"], apart := false, laid := [("unicode/utf8.acceptRanges", laid_unicode_utf8_acceptRanges), ("unicode/utf8.first", laid_unicode_utf8_first)], narrowed := true }
def VolumeRecoversUptoSaid : Prop := volumeRecoversUptoRow.holds Tryz.pinned (OpenSpec.upto volumeRecoversSpec)

end Rows
end Go.Proofs.YtccpdkjonepoiaaGreatDoor
