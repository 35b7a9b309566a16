/- Walks: files.in, files.May, commonsref15.May, commonsref06.Sized, commonslaw15.cut: each by itself. -/
import Derived.Test.YtoadbipcfolheaaRows
import Derived.Test.YtoadbipcfolheaaFilesPlain
import Derived.WalkKit
import Derived.WalkSpells
import Derived.WalkLawsBesides
import Derived.Lib.Hide
namespace Go.Proofs.Ytoadbipcfolheaa
open Go.RowKit

set_option maxHeartbeats 400000 in
theorem in_yes (n a b : Int) (w : World) (h1 : a ≤ n) (h2 : n ≤ b) :
    Calls Try.prog 13 #[.int .i64 n, .int .i64 a, .int .i64 b] w fun e w' => e = .returned (.bool true) ∧ w = w' := by
  go_enter Try.func13, Try.ntmps13
  go_wp2
  go_ret
  exact ⟨rfl, rfl⟩
set_option maxHeartbeats 400000 in
theorem in_no1 (n a b : Int) (w : World) (h1 : n < a) :
    Calls Try.prog 13 #[.int .i64 n, .int .i64 a, .int .i64 b] w fun e w' => e = .returned (.bool false) ∧ w = w' := by
  have h1' : ¬ a ≤ n := by omega
  go_enter Try.func13, Try.ntmps13
  go_wp2
  go_ret
  exact ⟨rfl, rfl⟩
set_option maxHeartbeats 400000 in
theorem in_no2 (n a b : Int) (w : World) (h1 : a ≤ n) (h2 : b < n) :
    Calls Try.prog 13 #[.int .i64 n, .int .i64 a, .int .i64 b] w fun e w' => e = .returned (.bool false) ∧ w = w' := by
  have h2' : ¬ n ≤ b := by omega
  go_enter Try.func13, Try.ntmps13
  go_wp2
  go_ret
  exact ⟨rfl, rfl⟩
def inB (n a b : Int) : Bool := decide (a ≤ n) && decide (n ≤ b)
theorem in_any (n a b : Int) (w : World) :
    Calls Try.prog 13 #[.int .i64 n, .int .i64 a, .int .i64 b] w fun e w' => e = .returned (.bool (inB n a b)) ∧ w = w' := by
  unfold inB
  by_cases h1 : a ≤ n
  · by_cases h2 : n ≤ b
    · simpa [h1, h2] using in_yes n a b w h1 h2
    · simpa [h1, h2] using in_no2 n a b w h1 (by omega)
  · simpa [h1] using in_no1 n a b w (by omega)

end Go.Proofs.Ytoadbipcfolheaa
