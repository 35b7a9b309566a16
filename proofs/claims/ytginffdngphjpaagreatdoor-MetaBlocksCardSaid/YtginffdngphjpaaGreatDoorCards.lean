/-
  DERIVED. GIVEN WITH THE SEED: THE CARDS: each row of YtginffdngphjpaaGreatDoorRows.lean that lists a variable, with what it lists TIED to the program's text (the seventh form; the later family's looks); each row that meets fmt, with fmt's text TOLD by the authors' own Lean function (tested against real Go, not proved from fmt's source: count such statements apart). THE CARD IS WHAT COUNTS. Prove the row's statement (the work); the ties are given (YtginffdngphjpaaGreatDoorTie.lean); close each card by the builder's one call (the guide's Derived/Test/ToyasCard.lean, 'card_holds'). Laid BY PROGRAM, IN A SANDBOX (cutbox-door.mjs). By AI agents, Wed Nov 11 2026. No macro, syntax, notation, axiom, sorry.
-/
import Derived.Test.YtginffdngphjpaaGreatDoorRows
import GoSem.ClaimSeven
namespace Go.Proofs.YtginffdngphjpaaGreatDoor
namespace Rows

/-- THE TIED CARD OF 'commonslaw14.MetaSets'. -/
def metaSetsCard : Claim7 := { stood := { row := metaSetsRow, standIns := [], harness := (true, "61a3dd4d3dddc595cc82a987fdc06269e9ea73b8948299369c64bbfbf1923fc7"), looks := false }, kinds := [], alts := [], laidByText := true, laidKinds := [.data, .pinned], laidTests := true, laidLooks := .later }
def MetaSetsCardSaid : Prop := Claim7.holds Tryz.pinned (.plain (OpenSpec.ofChange metaSetsSpec)) metaSetsCard

/-- THE TIED CARD OF 'commonslaw14.MetaBlocks'. -/
def metaBlocksCard : Claim7 := { stood := { row := metaBlocksRow, standIns := [], harness := (true, "61a3dd4d3dddc595cc82a987fdc06269e9ea73b8948299369c64bbfbf1923fc7"), looks := false }, kinds := [], alts := [], laidByText := true, laidKinds := [.data, .pinned], laidTests := true, laidLooks := .later }
def MetaBlocksCardSaid : Prop := Claim7.holds Tryz.pinned (.plain (OpenSpec.ofChange metaBlocksSpec)) metaBlocksCard

/-- THE TIED CARD OF 'commonslaw15.FilesBlocks'. -/
def filesBlocksCard : Claim7 := { stood := { row := filesBlocksRow, standIns := [], harness := (true, "61a3dd4d3dddc595cc82a987fdc06269e9ea73b8948299369c64bbfbf1923fc7"), looks := false }, kinds := [], alts := [], laidByText := true, laidKinds := [.data, .pinned], laidTests := true, laidLooks := .later }
def FilesBlocksCardSaid : Prop := Claim7.holds Tryz.pinned (.plain (OpenSpec.ofChange filesBlocksSpec)) filesBlocksCard

/-- THE TIED CARD OF 'commonslaw15.FilesSpace'. -/
def filesSpaceCard : Claim7 := { stood := { row := filesSpaceRow, standIns := [], harness := (true, "61a3dd4d3dddc595cc82a987fdc06269e9ea73b8948299369c64bbfbf1923fc7"), looks := false }, kinds := [], alts := [], laidByText := true, laidKinds := [.data, .pinned], laidTests := true, laidLooks := .later }
def FilesSpaceCardSaid : Prop := Claim7.holds Tryz.pinned (.plain (OpenSpec.ofChange filesSpaceSpec)) filesSpaceCard

/-- THE TIED CARD OF 'commonslaw15.FilesElse'. -/
def filesElseCard : Claim7 := { stood := { row := filesElseRow, standIns := [], harness := (true, "61a3dd4d3dddc595cc82a987fdc06269e9ea73b8948299369c64bbfbf1923fc7"), looks := false }, kinds := [], alts := [], laidByText := true, laidKinds := [.data, .pinned], laidTests := true, laidLooks := .later }
def FilesElseCardSaid : Prop := Claim7.holds Tryz.pinned (.plain (OpenSpec.ofChange filesElseSpec)) filesElseCard

/-- THE TIED CARD OF 'commonslaw15.FilesPlays'. -/
def filesPlaysCard : Claim7 := { stood := { row := filesPlaysRow, standIns := [], harness := (true, "61a3dd4d3dddc595cc82a987fdc06269e9ea73b8948299369c64bbfbf1923fc7"), looks := false }, kinds := [], alts := [], laidByText := true, laidKinds := [.data, .pinned], laidTests := true, laidLooks := .later }
def FilesPlaysCardSaid : Prop := Claim7.holds Tryz.pinned (.plain (OpenSpec.ofChange filesPlaysSpec)) filesPlaysCard

/-- THE SECOND FORM's CARD OF 'commonslaw14.MetaSets'. -/
def metaSetsUptoCard : Claim7 := { stood := { row := metaSetsUptoRow, standIns := [], harness := (true, "61a3dd4d3dddc595cc82a987fdc06269e9ea73b8948299369c64bbfbf1923fc7"), looks := false }, kinds := [], alts := [], laidByText := true, laidKinds := [.data, .pinned], laidTests := true, laidLooks := .later }
def MetaSetsUptoCardSaid : Prop := Claim7.holds Tryz.pinned (.plain (OpenSpec.upto metaSetsSpec)) metaSetsUptoCard

/-- THE SECOND FORM's CARD OF 'commonslaw14.MetaBlocks'. -/
def metaBlocksUptoCard : Claim7 := { stood := { row := metaBlocksUptoRow, standIns := [], harness := (true, "61a3dd4d3dddc595cc82a987fdc06269e9ea73b8948299369c64bbfbf1923fc7"), looks := false }, kinds := [], alts := [], laidByText := true, laidKinds := [.data, .pinned], laidTests := true, laidLooks := .later }
def MetaBlocksUptoCardSaid : Prop := Claim7.holds Tryz.pinned (.plain (OpenSpec.upto metaBlocksSpec)) metaBlocksUptoCard

/-- THE SECOND FORM's CARD OF 'commonslaw15.FilesBlocks'. -/
def filesBlocksUptoCard : Claim7 := { stood := { row := filesBlocksUptoRow, standIns := [], harness := (true, "61a3dd4d3dddc595cc82a987fdc06269e9ea73b8948299369c64bbfbf1923fc7"), looks := false }, kinds := [], alts := [], laidByText := true, laidKinds := [.data, .pinned], laidTests := true, laidLooks := .later }
def FilesBlocksUptoCardSaid : Prop := Claim7.holds Tryz.pinned (.plain (OpenSpec.upto filesBlocksSpec)) filesBlocksUptoCard

/-- THE SECOND FORM's CARD OF 'commonslaw15.FilesSpace'. -/
def filesSpaceUptoCard : Claim7 := { stood := { row := filesSpaceUptoRow, standIns := [], harness := (true, "61a3dd4d3dddc595cc82a987fdc06269e9ea73b8948299369c64bbfbf1923fc7"), looks := false }, kinds := [], alts := [], laidByText := true, laidKinds := [.data, .pinned], laidTests := true, laidLooks := .later }
def FilesSpaceUptoCardSaid : Prop := Claim7.holds Tryz.pinned (.plain (OpenSpec.upto filesSpaceSpec)) filesSpaceUptoCard

/-- THE SECOND FORM's CARD OF 'commonslaw15.FilesElse'. -/
def filesElseUptoCard : Claim7 := { stood := { row := filesElseUptoRow, standIns := [], harness := (true, "61a3dd4d3dddc595cc82a987fdc06269e9ea73b8948299369c64bbfbf1923fc7"), looks := false }, kinds := [], alts := [], laidByText := true, laidKinds := [.data, .pinned], laidTests := true, laidLooks := .later }
def FilesElseUptoCardSaid : Prop := Claim7.holds Tryz.pinned (.plain (OpenSpec.upto filesElseSpec)) filesElseUptoCard

/-- THE SECOND FORM's CARD OF 'commonslaw15.FilesPlays'. -/
def filesPlaysUptoCard : Claim7 := { stood := { row := filesPlaysUptoRow, standIns := [], harness := (true, "61a3dd4d3dddc595cc82a987fdc06269e9ea73b8948299369c64bbfbf1923fc7"), looks := false }, kinds := [], alts := [], laidByText := true, laidKinds := [.data, .pinned], laidTests := true, laidLooks := .later }
def FilesPlaysUptoCardSaid : Prop := Claim7.holds Tryz.pinned (.plain (OpenSpec.upto filesPlaysSpec)) filesPlaysUptoCard
end Rows
end Go.Proofs.YtginffdngphjpaaGreatDoor
