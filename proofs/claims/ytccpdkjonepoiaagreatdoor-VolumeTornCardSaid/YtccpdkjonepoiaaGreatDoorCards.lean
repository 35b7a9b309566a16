/-
  DERIVED. GIVEN WITH THE SEED: THE CARDS: each row of YtccpdkjonepoiaaGreatDoorRows.lean that lists a variable, with what it lists TIED to the program's text (the seventh form; the later family's looks); each row that meets fmt, with fmt's text TOLD by the authors' own Lean function (tested against real Go, not proved from fmt's source: count such statements apart). THE CARD IS WHAT COUNTS. Prove the row's statement (the work); the ties are given (YtccpdkjonepoiaaGreatDoorTie.lean); close each card by the builder's one call (the guide's Derived/Test/ToyasCard.lean, 'card_holds'). Laid BY PROGRAM, IN A SANDBOX (cutbox-door.mjs). By AI agents, Wed Nov 11 2026. No macro, syntax, notation, axiom, sorry.
-/
import Derived.Test.YtccpdkjonepoiaaGreatDoorRows
import GoSem.ClaimSeven
namespace Go.Proofs.YtccpdkjonepoiaaGreatDoor
namespace Rows

/-- THE TIED CARD OF 'commonslaw17.VolumeMounts'. -/
def volumeMountsCard : Claim7 := { stood := { row := volumeMountsRow, standIns := [], harness := (true, "d52c86c856b31908122208942cea4846ef1c90cdec2528b01b0b4d741afda5a6"), looks := false }, kinds := [], alts := [], laidByText := true, laidKinds := [.data, .pinned], laidTests := true, laidLooks := .later }
def VolumeMountsCardSaid : Prop := Claim7.holds Tryz.pinned (.plain (OpenSpec.ofChange volumeMountsSpec)) volumeMountsCard

/-- THE TIED CARD OF 'commonslaw17.VolumeTorn'. -/
def volumeTornCard : Claim7 := { stood := { row := volumeTornRow, standIns := [], harness := (true, "d52c86c856b31908122208942cea4846ef1c90cdec2528b01b0b4d741afda5a6"), looks := false }, kinds := [], alts := [], laidByText := true, laidKinds := [.data, .pinned], laidTests := true, laidLooks := .later }
def VolumeTornCardSaid : Prop := Claim7.holds Tryz.pinned (.plain (OpenSpec.ofChange volumeTornSpec)) volumeTornCard

/-- THE TIED CARD OF 'commonslaw17.VolumeCounts'. -/
def volumeCountsCard : Claim7 := { stood := { row := volumeCountsRow, standIns := [], harness := (true, "d52c86c856b31908122208942cea4846ef1c90cdec2528b01b0b4d741afda5a6"), looks := false }, kinds := [], alts := [], laidByText := true, laidKinds := [.data, .pinned], laidTests := true, laidLooks := .later }
def VolumeCountsCardSaid : Prop := Claim7.holds Tryz.pinned (.plain (OpenSpec.ofChange volumeCountsSpec)) volumeCountsCard

/-- THE TIED CARD OF 'commonslaw17.VolumePlays'. -/
def volumePlaysCard : Claim7 := { stood := { row := volumePlaysRow, standIns := [], harness := (true, "d52c86c856b31908122208942cea4846ef1c90cdec2528b01b0b4d741afda5a6"), looks := false }, kinds := [], alts := [], laidByText := true, laidKinds := [.data, .pinned], laidTests := true, laidLooks := .later }
def VolumePlaysCardSaid : Prop := Claim7.holds Tryz.pinned (.plain (OpenSpec.ofChange volumePlaysSpec)) volumePlaysCard

/-- THE TIED CARD OF 'commonslaw17.VolumeTakes'. -/
def volumeTakesCard : Claim7 := { stood := { row := volumeTakesRow, standIns := [], harness := (true, "d52c86c856b31908122208942cea4846ef1c90cdec2528b01b0b4d741afda5a6"), looks := false }, kinds := [], alts := [], laidByText := true, laidKinds := [.data, .pinned], laidTests := true, laidLooks := .later }
def VolumeTakesCardSaid : Prop := Claim7.holds Tryz.pinned (.plain (OpenSpec.ofChange volumeTakesSpec)) volumeTakesCard

/-- THE TIED CARD OF 'commonslaw17.VolumeRecovers'. -/
def volumeRecoversCard : Claim7 := { stood := { row := volumeRecoversRow, standIns := [], harness := (true, "d52c86c856b31908122208942cea4846ef1c90cdec2528b01b0b4d741afda5a6"), looks := false }, kinds := [], alts := [], laidByText := true, laidKinds := [.data, .pinned], laidTests := true, laidLooks := .later }
def VolumeRecoversCardSaid : Prop := Claim7.holds Tryz.pinned (.plain (OpenSpec.ofChange volumeRecoversSpec)) volumeRecoversCard

/-- THE SECOND FORM's CARD OF 'commonslaw17.VolumeMounts'. -/
def volumeMountsUptoCard : Claim7 := { stood := { row := volumeMountsUptoRow, standIns := [], harness := (true, "d52c86c856b31908122208942cea4846ef1c90cdec2528b01b0b4d741afda5a6"), looks := false }, kinds := [], alts := [], laidByText := true, laidKinds := [.data, .pinned], laidTests := true, laidLooks := .later }
def VolumeMountsUptoCardSaid : Prop := Claim7.holds Tryz.pinned (.plain (OpenSpec.upto volumeMountsSpec)) volumeMountsUptoCard

/-- THE SECOND FORM's CARD OF 'commonslaw17.VolumeTorn'. -/
def volumeTornUptoCard : Claim7 := { stood := { row := volumeTornUptoRow, standIns := [], harness := (true, "d52c86c856b31908122208942cea4846ef1c90cdec2528b01b0b4d741afda5a6"), looks := false }, kinds := [], alts := [], laidByText := true, laidKinds := [.data, .pinned], laidTests := true, laidLooks := .later }
def VolumeTornUptoCardSaid : Prop := Claim7.holds Tryz.pinned (.plain (OpenSpec.upto volumeTornSpec)) volumeTornUptoCard

/-- THE SECOND FORM's CARD OF 'commonslaw17.VolumeCounts'. -/
def volumeCountsUptoCard : Claim7 := { stood := { row := volumeCountsUptoRow, standIns := [], harness := (true, "d52c86c856b31908122208942cea4846ef1c90cdec2528b01b0b4d741afda5a6"), looks := false }, kinds := [], alts := [], laidByText := true, laidKinds := [.data, .pinned], laidTests := true, laidLooks := .later }
def VolumeCountsUptoCardSaid : Prop := Claim7.holds Tryz.pinned (.plain (OpenSpec.upto volumeCountsSpec)) volumeCountsUptoCard

/-- THE SECOND FORM's CARD OF 'commonslaw17.VolumePlays'. -/
def volumePlaysUptoCard : Claim7 := { stood := { row := volumePlaysUptoRow, standIns := [], harness := (true, "d52c86c856b31908122208942cea4846ef1c90cdec2528b01b0b4d741afda5a6"), looks := false }, kinds := [], alts := [], laidByText := true, laidKinds := [.data, .pinned], laidTests := true, laidLooks := .later }
def VolumePlaysUptoCardSaid : Prop := Claim7.holds Tryz.pinned (.plain (OpenSpec.upto volumePlaysSpec)) volumePlaysUptoCard

/-- THE SECOND FORM's CARD OF 'commonslaw17.VolumeTakes'. -/
def volumeTakesUptoCard : Claim7 := { stood := { row := volumeTakesUptoRow, standIns := [], harness := (true, "d52c86c856b31908122208942cea4846ef1c90cdec2528b01b0b4d741afda5a6"), looks := false }, kinds := [], alts := [], laidByText := true, laidKinds := [.data, .pinned], laidTests := true, laidLooks := .later }
def VolumeTakesUptoCardSaid : Prop := Claim7.holds Tryz.pinned (.plain (OpenSpec.upto volumeTakesSpec)) volumeTakesUptoCard

/-- THE SECOND FORM's CARD OF 'commonslaw17.VolumeRecovers'. -/
def volumeRecoversUptoCard : Claim7 := { stood := { row := volumeRecoversUptoRow, standIns := [], harness := (true, "d52c86c856b31908122208942cea4846ef1c90cdec2528b01b0b4d741afda5a6"), looks := false }, kinds := [], alts := [], laidByText := true, laidKinds := [.data, .pinned], laidTests := true, laidLooks := .later }
def VolumeRecoversUptoCardSaid : Prop := Claim7.holds Tryz.pinned (.plain (OpenSpec.upto volumeRecoversSpec)) volumeRecoversUptoCard
end Rows
end Go.Proofs.YtccpdkjonepoiaaGreatDoor
