/- The laws of layer 1 walked: each returns true. -/
import Derived.Test.YtfgfafojmjbmbaaDoorWK
namespace Go.Proofs.YtfgfafojmjbmbaaDoor
open Go.RowKit

set_option maxHeartbeats 400000 in
theorem wordBins_any (op a b : Int) (w : World) (h1 : In64 op) (h2 : In64 a) (h3 : In64 b) (hL : LaidW w) :
    Calls Tryd.prog 3 #[.int .i64 op, .int .i64 a, .int .i64 b] w fun e w' => e = .returned (.bool true) ∧ Below w.heap.size w w' := by
  go_enter Tryd.func3, Tryd.ntmps3
  go_wp2_with fail
  refine (awake_any _ hL).mono ?_
  rintro e w1 ⟨rfl, hb1⟩
  go_wp2_with fail
  refine (bin_b _ _ _ _).mono ?_
  rintro e w2 ⟨rfl, hb2⟩
  go_wp2_with fail
  refine (refbin_b _ _ _ _).mono ?_
  rintro e w3 ⟨rfl, hb3⟩
  go_wp2_with fail
  go_ret
  exact ⟨rfl, bthen hb1 (bthen hb2 hb3)⟩
end Go.Proofs.YtfgfafojmjbmbaaDoor
