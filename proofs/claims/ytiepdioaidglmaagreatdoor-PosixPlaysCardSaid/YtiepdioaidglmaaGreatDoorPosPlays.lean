/- Walks: the law PosixPlays: whatever is asked, the answer is the document's. -/
import Derived.Test.YtiepdioaidglmaaGreatDoorPosPlayed
import Derived.Test.YtiepdioaidglmaaGreatDoorPosLives
set_option linter.unusedVariables false
set_option linter.unusedSimpArgs false
namespace Go.Proofs.YtiepdioaidglmaaGreatDoor
open Go.RowKit

set_option maxHeartbeats 4000000 in
set_option maxRecDepth 8192 in
theorem law_plays [Inhabited XBox] (A : Option Addr) (L : List Ask) (c : Nat) (w : World) (hx : MxX w) (hlen : L.length ≤ 9223372036854775807) (hA : Asks w A L) (hI : ∀ a ∈ L, I64 a.cl ∧ I64 a.fd) :
    Calls Tryz.prog 3 #[.slice A L.length c] w fun e w' => e = .returned (.bool true) ∧ Below w.heap.size w w' := by
  have HP := Lib.hid (played_any A L c 60 w (by omega) hx hlen hA hI)
  clear hx hA hI
  go_enter Tryz.func3, Tryz.ntmps3
  go_wp2_with fail
  refine HP.out.mono ?_
  rintro e w1 ⟨pr, rr, S, F, G, rfl, hB, hG, hF⟩
  have HB := Lib.hid hB
  clear hB hG hF
  go_wp2_with fail
  refine (lives_any _ HB.out.real.mxx).mono ?_
  rintro e w2 ⟨rfl, hb⟩
  go_wp2
  go_ret
  exact ⟨rfl, HB.out.below.trans (hb.mono HB.out.below.size)⟩

end Go.Proofs.YtiepdioaidglmaaGreatDoor
