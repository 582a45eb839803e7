/- Walks of package power: level, power, conditions. -/
import Derived.Test.YtaafmckdmeikjaaDoorPowP
import Derived.Test.YtaafmckdmeikjaaDoorReg
import Derived.StillTailTactics
import Derived.Deep.RegionHeld3
import Derived.Deep.DeepCutAuto
import Derived.Deep.QuietTactic
import Derived.BigQuiet
import Derived.Lib.Hide
namespace Go.Proofs.YtaafmckdmeikjaaDoor
open Go.RowKit

theorem idx_run (m : Nat) (hm : m < 10) (w : World) : (Instr.index 51 (.agg #[.int .i64 1000, .int .i64 1259, .int .i64 1585, .int .i64 1995, .int .i64 2512, .int .i64 3162, .int .i64 3981, .int .i64 5012, .int .i64 6310, .int .i64 7943]) (.int .i64 m)).run Tryd.prog w = .ok (.int .i64 (tv m 0)) w := by
  have h10 : m = 0 ∨ m = 1 ∨ m = 2 ∨ m = 3 ∨ m = 4 ∨ m = 5 ∨ m = 6 ∨ m = 7 ∨ m = 8 ∨ m = 9 := by omega
  rcases h10 with rfl | rfl | rfl | rfl | rfl | rfl | rfl | rfl | rfl | rfl <;> (show _ = _; kernel_rfl)

set_option maxRecDepth 100000 in
theorem level_any (d : Nat) (hd : d ≤ 109) (w : World) : Calls Tryd.prog 20 #[.int .i64 d] w fun e w' => e = .returned (.int .i64 (lev d)) ∧ w = w' := by
  have hm : (d : Int).tmod 10 = ((d % 10 : Nat) : Int) := rfl
  have hq : (d : Int).tdiv 10 = ((d / 10 : Nat) : Int) := rfl
  have hlt : d % 10 < 10 := by omega
  have hle : d / 10 ≤ 10 := by omega
  have HL : Hid (lev d = tv (d % 10) (d / 10) / 1000) := Lib.hid rfl
  generalize lev d = LD at HL ⊢
  generalize d % 10 = m at *
  generalize d / 10 = q at *
  have hx := fun w => idx_run m hlt w
  go_enter Tryd.func20, Tryd.ntmps20
  go_wp2_with fail
  go_loop [3, 10] (fun s3 i => ∃ k : Nat, k ≤ q ∧ i = .int .i64 k ∧ s3 = .int .i64 (tv m k)) (fun _ i => q - (intOf i).toNat)
  case atStart => exact ⟨0, by omega, rfl, rfl⟩
  case round =>
    obtain ⟨k, hk, rfl, rfl⟩ := hrel
    obtain ⟨t1, t2⟩ := tv_bound m k (by omega)
    by_cases hkq : k < q
    · have hkq' : (k : Int) < q := by omega
      have HT := Lib.hid (tv_succ m k)
      go_wp2_with fail
      go_round
      case rel => exact ⟨k + 1, by omega, by go_num, by rw [HT.out]⟩
      case measure => simp [intOf]; omega
    · obtain rfl : k = q := by omega
      go_wp2_with fail
      go_ret
      exact ⟨ret_int HL.out.symm, rfl⟩
end Go.Proofs.YtaafmckdmeikjaaDoor
