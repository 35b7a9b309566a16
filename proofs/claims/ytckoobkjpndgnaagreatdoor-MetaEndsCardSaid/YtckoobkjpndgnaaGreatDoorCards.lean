/-
  DERIVED. GIVEN WITH THE SEED: THE CARDS: each row of YtckoobkjpndgnaaGreatDoorRows.lean that lists a variable, with what it lists TIED to the program's text (the seventh form; the later family's looks); each row that meets fmt, with fmt's text TOLD by the authors' own Lean function (tested against real Go, not proved from fmt's source: count such statements apart). THE CARD IS WHAT COUNTS. Prove the row's statement (the work); the ties are given (YtckoobkjpndgnaaGreatDoorTie.lean); close each card by the builder's one call (the guide's Derived/Test/ToyasCard.lean, 'card_holds'). Laid BY PROGRAM, IN A SANDBOX (cutbox-door.mjs). By AI agents, Wed Nov 11 2026. No macro, syntax, notation, axiom, sorry.
-/
import Derived.Test.YtckoobkjpndgnaaGreatDoorRows
import GoSem.ClaimSeven
namespace Go.Proofs.YtckoobkjpndgnaaGreatDoor
namespace Rows

/-- THE TIED CARD OF 'commonslaw14.MetaEnds'. -/
def metaEndsCard : Claim7 := { stood := { row := metaEndsRow, standIns := [], harness := (true, "716cb8245cb8fd0bbfc06cc200526421f9ccb59f8312ee89bf5a50ec4bdba0a0"), looks := false }, kinds := [], alts := [], laidByText := true, laidKinds := [.data, .pinned], laidTests := true, laidLooks := .later }
def MetaEndsCardSaid : Prop := Claim7.holds Tryz.pinned (.plain (OpenSpec.ofChange metaEndsSpec)) metaEndsCard

/-- THE SECOND FORM's CARD OF 'commonslaw14.MetaEnds'. -/
def metaEndsUptoCard : Claim7 := { stood := { row := metaEndsUptoRow, standIns := [], harness := (true, "716cb8245cb8fd0bbfc06cc200526421f9ccb59f8312ee89bf5a50ec4bdba0a0"), looks := false }, kinds := [], alts := [], laidByText := true, laidKinds := [.data, .pinned], laidTests := true, laidLooks := .later }
def MetaEndsUptoCardSaid : Prop := Claim7.holds Tryz.pinned (.plain (OpenSpec.upto metaEndsSpec)) metaEndsUptoCard
end Rows
end Go.Proofs.YtckoobkjpndgnaaGreatDoor
