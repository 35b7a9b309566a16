/-
  DERIVED. GIVEN WITH THE SEED: THE CARDS: each row of YtbpejjmfdhkfhaaGreatDoorRows.lean that lists a variable, with what it lists TIED to the program's text (the seventh form; the later family's looks); each row that meets fmt, with fmt's text TOLD by the authors' own Lean function (tested against real Go, not proved from fmt's source: count such statements apart). THE CARD IS WHAT COUNTS. Prove the row's statement (the work); the ties are given (YtbpejjmfdhkfhaaGreatDoorTie.lean); close each card by the builder's one call (the guide's Derived/Test/ToyasCard.lean, 'card_holds'). Laid BY PROGRAM, IN A SANDBOX (cutbox-door.mjs). By AI agents, Wed Nov 11 2026. No macro, syntax, notation, axiom, sorry.
-/
import Derived.Test.YtbpejjmfdhkfhaaGreatDoorRows
import GoSem.ClaimSeven
namespace Go.Proofs.YtbpejjmfdhkfhaaGreatDoor
namespace Rows

/-- THE TIED CARD OF 'commonslaw06.PosixSame'. -/
def posixSameCard : Claim7 := { stood := { row := posixSameRow, standIns := [], harness := (true, "bc73ff57d482b55d1f9751fe14cf1d10114a6b5b41a2bd4a1a0862e1a07687ad"), looks := false }, kinds := [], alts := [], laidByText := true, laidKinds := [.data, .pinned], laidTests := true, laidLooks := .later }
def PosixSameCardSaid : Prop := Claim7.holds Tryz.pinned (.plain (OpenSpec.ofChange posixSameSpec)) posixSameCard

/-- THE TIED CARD OF 'commonslaw25.AuditTrue'. -/
def auditTrueCard : Claim7 := { stood := { row := auditTrueRow, standIns := [], harness := (true, "bc73ff57d482b55d1f9751fe14cf1d10114a6b5b41a2bd4a1a0862e1a07687ad"), looks := false }, kinds := [], alts := [], laidByText := true, laidKinds := [.data, .pinned], laidTests := true, laidLooks := .later }
def AuditTrueCardSaid : Prop := Claim7.holds Tryz.pinned (.plain (OpenSpec.ofChange auditTrueSpec)) auditTrueCard

/-- THE TIED CARD OF 'commonslaw25.AuditMoments'. -/
def auditMomentsCard : Claim7 := { stood := { row := auditMomentsRow, standIns := [], harness := (true, "bc73ff57d482b55d1f9751fe14cf1d10114a6b5b41a2bd4a1a0862e1a07687ad"), looks := false }, kinds := [], alts := [], laidByText := true, laidKinds := [.data, .pinned], laidTests := true, laidLooks := .later }
def AuditMomentsCardSaid : Prop := Claim7.holds Tryz.pinned (.plain (OpenSpec.ofChange auditMomentsSpec)) auditMomentsCard

/-- THE SECOND FORM's CARD OF 'commonslaw06.PosixSame'. -/
def posixSameUptoCard : Claim7 := { stood := { row := posixSameUptoRow, standIns := [], harness := (true, "bc73ff57d482b55d1f9751fe14cf1d10114a6b5b41a2bd4a1a0862e1a07687ad"), looks := false }, kinds := [], alts := [], laidByText := true, laidKinds := [.data, .pinned], laidTests := true, laidLooks := .later }
def PosixSameUptoCardSaid : Prop := Claim7.holds Tryz.pinned (.plain (OpenSpec.upto posixSameSpec)) posixSameUptoCard

/-- THE SECOND FORM's CARD OF 'commonslaw25.AuditTrue'. -/
def auditTrueUptoCard : Claim7 := { stood := { row := auditTrueUptoRow, standIns := [], harness := (true, "bc73ff57d482b55d1f9751fe14cf1d10114a6b5b41a2bd4a1a0862e1a07687ad"), looks := false }, kinds := [], alts := [], laidByText := true, laidKinds := [.data, .pinned], laidTests := true, laidLooks := .later }
def AuditTrueUptoCardSaid : Prop := Claim7.holds Tryz.pinned (.plain (OpenSpec.upto auditTrueSpec)) auditTrueUptoCard

/-- THE SECOND FORM's CARD OF 'commonslaw25.AuditMoments'. -/
def auditMomentsUptoCard : Claim7 := { stood := { row := auditMomentsUptoRow, standIns := [], harness := (true, "bc73ff57d482b55d1f9751fe14cf1d10114a6b5b41a2bd4a1a0862e1a07687ad"), looks := false }, kinds := [], alts := [], laidByText := true, laidKinds := [.data, .pinned], laidTests := true, laidLooks := .later }
def AuditMomentsUptoCardSaid : Prop := Claim7.holds Tryz.pinned (.plain (OpenSpec.upto auditMomentsSpec)) auditMomentsUptoCard
end Rows
end Go.Proofs.YtbpejjmfdhkfhaaGreatDoor
