/- Walks: the document's file: a write, a cut, a close. -/
import Derived.Test.YtckoobkjpndgnaaGreatDoorW22
set_option linter.unusedVariables false
set_option linter.unusedSimpArgs false
set_option linter.unusedSectionVars false
set_option maxHeartbeats 8000000
set_option maxRecDepth 100000
namespace Go.Proofs.YtckoobkjpndgnaaGreatDoor
open Go.RowKit
open Lib(hid)
open Go.Proofs.Tryz

end Go.Proofs.YtckoobkjpndgnaaGreatDoor
