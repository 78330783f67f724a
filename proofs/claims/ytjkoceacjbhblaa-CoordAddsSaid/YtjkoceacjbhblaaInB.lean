/- tailraceref.In. -/
import Derived.Test.YtjkoceacjbhblaaBase
namespace Go.Proofs.Ytjkoceacjbhblaa
open Go.RowKit

def inB (n lo hi : Int) : Bool := decide (lo ≤ n) && decide (n ≤ hi)
set_option maxHeartbeats 400000 in
theorem In_any (n lo hi : Int) (w : World) :
    Calls Try.prog 64 #[.int .i64 n, .int .i64 lo, .int .i64 hi] w fun e w' => e = .returned (.bool (inB n lo hi)) ∧ w = w' := by
  go_enter Try.func64, Try.ntmps64
  go_wp2
  all_goals go_ret
  all_goals refine ⟨ret_bool ?_, rfl⟩
  all_goals grind [inB]

end Go.Proofs.Ytjkoceacjbhblaa
