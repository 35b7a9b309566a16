/-
  DERIVED. GIVEN WITH THE SEED: THE CARDS: each row of YtjlpkbhgphjpeaaGreatDoorRows.lean that lists a variable, with what it lists TIED to the program's text (the seventh form; the later family's looks); each row that meets fmt, with fmt's text TOLD by the authors' own Lean function (tested against real Go, not proved from fmt's source: count such statements apart). THE CARD IS WHAT COUNTS. Prove the row's statement (the work); the ties are given (YtjlpkbhgphjpeaaGreatDoorTie.lean); close each card by the builder's one call (the guide's Derived/Test/ToyasCard.lean, 'card_holds'). Laid BY PROGRAM, IN A SANDBOX (cutbox-door.mjs). By AI agents, Wed Nov 11 2026. No macro, syntax, notation, axiom, sorry.
-/
import Derived.Test.YtjlpkbhgphjpeaaGreatDoorRows
import GoSem.ClaimSeven
namespace Go.Proofs.YtjlpkbhgphjpeaaGreatDoor
namespace Rows

/-- THE TIED CARD OF 'commonslaw14.MetaPlays'. -/
def metaPlaysCard : Claim7 := { stood := { row := metaPlaysRow, standIns := [], harness := (true, "463f2679ab50a2ade4d25cb7a8d6c14bd91b5b7f74828988fefa1d60ce8d98ea"), looks := false }, kinds := [], alts := [], laidByText := true, laidKinds := [.data, .pinned], laidTests := true, laidLooks := .later }
def MetaPlaysCardSaid : Prop := Claim7.holds Tryz.pinned (.plain (OpenSpec.ofChange metaPlaysSpec)) metaPlaysCard

/-- THE TIED CARD OF 'commonslaw14.MetaSound'. -/
def metaSoundCard : Claim7 := { stood := { row := metaSoundRow, standIns := [], harness := (true, "463f2679ab50a2ade4d25cb7a8d6c14bd91b5b7f74828988fefa1d60ce8d98ea"), looks := false }, kinds := [], alts := [], laidByText := true, laidKinds := [.data, .pinned], laidTests := true, laidLooks := .later }
def MetaSoundCardSaid : Prop := Claim7.holds Tryz.pinned (.plain (OpenSpec.ofChange metaSoundSpec)) metaSoundCard

/-- THE TIED CARD OF 'commonslaw14.MetaSpace'. -/
def metaSpaceCard : Claim7 := { stood := { row := metaSpaceRow, standIns := [], harness := (true, "463f2679ab50a2ade4d25cb7a8d6c14bd91b5b7f74828988fefa1d60ce8d98ea"), looks := false }, kinds := [], alts := [], laidByText := true, laidKinds := [.data, .pinned], laidTests := true, laidLooks := .later }
def MetaSpaceCardSaid : Prop := Claim7.holds Tryz.pinned (.plain (OpenSpec.ofChange metaSpaceSpec)) metaSpaceCard

/-- THE TIED CARD OF 'commonslaw14.MetaRefuses'. -/
def metaRefusesCard : Claim7 := { stood := { row := metaRefusesRow, standIns := [], harness := (true, "463f2679ab50a2ade4d25cb7a8d6c14bd91b5b7f74828988fefa1d60ce8d98ea"), looks := false }, kinds := [], alts := [], laidByText := true, laidKinds := [.data, .pinned], laidTests := true, laidLooks := .later }
def MetaRefusesCardSaid : Prop := Claim7.holds Tryz.pinned (.plain (OpenSpec.ofChange metaRefusesSpec)) metaRefusesCard

/-- THE TIED CARD OF 'commonslaw14.MetaEnds'. -/
def metaEndsCard : Claim7 := { stood := { row := metaEndsRow, standIns := [], harness := (true, "463f2679ab50a2ade4d25cb7a8d6c14bd91b5b7f74828988fefa1d60ce8d98ea"), looks := false }, kinds := [], alts := [], laidByText := true, laidKinds := [.data, .pinned], laidTests := true, laidLooks := .later }
def MetaEndsCardSaid : Prop := Claim7.holds Tryz.pinned (.plain (OpenSpec.ofChange metaEndsSpec)) metaEndsCard

/-- THE TIED CARD OF 'commonslaw14.MetaWalks'. -/
def metaWalksCard : Claim7 := { stood := { row := metaWalksRow, standIns := [], harness := (true, "463f2679ab50a2ade4d25cb7a8d6c14bd91b5b7f74828988fefa1d60ce8d98ea"), looks := false }, kinds := [], alts := [], laidByText := true, laidKinds := [.data, .pinned], laidTests := true, laidLooks := .later }
def MetaWalksCardSaid : Prop := Claim7.holds Tryz.pinned (.plain (OpenSpec.ofChange metaWalksSpec)) metaWalksCard

/-- THE SECOND FORM's CARD OF 'commonslaw14.MetaPlays'. -/
def metaPlaysUptoCard : Claim7 := { stood := { row := metaPlaysUptoRow, standIns := [], harness := (true, "463f2679ab50a2ade4d25cb7a8d6c14bd91b5b7f74828988fefa1d60ce8d98ea"), looks := false }, kinds := [], alts := [], laidByText := true, laidKinds := [.data, .pinned], laidTests := true, laidLooks := .later }
def MetaPlaysUptoCardSaid : Prop := Claim7.holds Tryz.pinned (.plain (OpenSpec.upto metaPlaysSpec)) metaPlaysUptoCard

/-- THE SECOND FORM's CARD OF 'commonslaw14.MetaSound'. -/
def metaSoundUptoCard : Claim7 := { stood := { row := metaSoundUptoRow, standIns := [], harness := (true, "463f2679ab50a2ade4d25cb7a8d6c14bd91b5b7f74828988fefa1d60ce8d98ea"), looks := false }, kinds := [], alts := [], laidByText := true, laidKinds := [.data, .pinned], laidTests := true, laidLooks := .later }
def MetaSoundUptoCardSaid : Prop := Claim7.holds Tryz.pinned (.plain (OpenSpec.upto metaSoundSpec)) metaSoundUptoCard

/-- THE SECOND FORM's CARD OF 'commonslaw14.MetaSpace'. -/
def metaSpaceUptoCard : Claim7 := { stood := { row := metaSpaceUptoRow, standIns := [], harness := (true, "463f2679ab50a2ade4d25cb7a8d6c14bd91b5b7f74828988fefa1d60ce8d98ea"), looks := false }, kinds := [], alts := [], laidByText := true, laidKinds := [.data, .pinned], laidTests := true, laidLooks := .later }
def MetaSpaceUptoCardSaid : Prop := Claim7.holds Tryz.pinned (.plain (OpenSpec.upto metaSpaceSpec)) metaSpaceUptoCard

/-- THE SECOND FORM's CARD OF 'commonslaw14.MetaRefuses'. -/
def metaRefusesUptoCard : Claim7 := { stood := { row := metaRefusesUptoRow, standIns := [], harness := (true, "463f2679ab50a2ade4d25cb7a8d6c14bd91b5b7f74828988fefa1d60ce8d98ea"), looks := false }, kinds := [], alts := [], laidByText := true, laidKinds := [.data, .pinned], laidTests := true, laidLooks := .later }
def MetaRefusesUptoCardSaid : Prop := Claim7.holds Tryz.pinned (.plain (OpenSpec.upto metaRefusesSpec)) metaRefusesUptoCard

/-- THE SECOND FORM's CARD OF 'commonslaw14.MetaEnds'. -/
def metaEndsUptoCard : Claim7 := { stood := { row := metaEndsUptoRow, standIns := [], harness := (true, "463f2679ab50a2ade4d25cb7a8d6c14bd91b5b7f74828988fefa1d60ce8d98ea"), looks := false }, kinds := [], alts := [], laidByText := true, laidKinds := [.data, .pinned], laidTests := true, laidLooks := .later }
def MetaEndsUptoCardSaid : Prop := Claim7.holds Tryz.pinned (.plain (OpenSpec.upto metaEndsSpec)) metaEndsUptoCard

/-- THE SECOND FORM's CARD OF 'commonslaw14.MetaWalks'. -/
def metaWalksUptoCard : Claim7 := { stood := { row := metaWalksUptoRow, standIns := [], harness := (true, "463f2679ab50a2ade4d25cb7a8d6c14bd91b5b7f74828988fefa1d60ce8d98ea"), looks := false }, kinds := [], alts := [], laidByText := true, laidKinds := [.data, .pinned], laidTests := true, laidLooks := .later }
def MetaWalksUptoCardSaid : Prop := Claim7.holds Tryz.pinned (.plain (OpenSpec.upto metaWalksSpec)) metaWalksUptoCard
end Rows
end Go.Proofs.YtjlpkbhgphjpeaaGreatDoor
