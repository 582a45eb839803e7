/- The walk of PowerLevels. -/
import Derived.Test.YtddekdlbkedaiaaDoorPow6
import Derived.Test.YtddekdlbkedaiaaDoorPow7
namespace Go.Proofs.YtddekdlbkedaiaaDoor
open Go.RowKit

set_option maxRecDepth 100000 in
set_option maxHeartbeats 1000000 in
theorem powerLevels_walk (n u f : Int) (w : World) : Calls Tryd.prog 4 #[.int .i64 n, .int .i64 u, .int .i64 f] w fun e w' => e = .returned (.bool true) ∧ Below w.heap.size w w' := by
  go_enter Tryd.func4, Tryd.ntmps4
  go_wp2_with (first | (go_at_call 10; (with_reducible refine (awake_any _).mono ?_); rintro e w1 ⟨rfl, hb1⟩) | (go_at_call 11; (with_reducible refine (Level_any _ _).mono ?_); rintro e w' ⟨rfl, rfl⟩) | (go_at_call 13; (with_reducible refine (rLevel_any _ _).mono ?_); rintro e w2 ⟨rfl, hb2⟩) | (go_at_call 12; (with_reducible refine (Decibels_any _ _).mono ?_); rintro e w3 ⟨rfl, hb3⟩) | (go_at_call 14; (with_reducible refine (rDecibels_any _ _).mono ?_); rintro e w4 ⟨rfl, hb4⟩) | (go_at_call 15; (with_reducible refine (Scale_any _ _ _).mono ?_); rintro e w' ⟨rfl, rfl⟩) | (go_at_call 16; (with_reducible refine (rScale_any _ _ _).mono ?_); rintro e w' ⟨rfl, rfl⟩))
  go_ret
  have s1 := hb1.size
  have s2 := hb2.size
  have s3 := hb3.size
  exact ⟨rfl, ((hb1.trans (hb2.mono s1)).trans (hb3.mono (by omega))).trans (hb4.mono (by omega))⟩

end Go.Proofs.YtddekdlbkedaiaaDoor
