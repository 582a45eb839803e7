/- Walks of the reference: Level. -/
import Derived.Test.YtaafmckdmeikjaaDoorPow2
namespace Go.Proofs.YtaafmckdmeikjaaDoor
open Go.RowKit

set_option maxRecDepth 100000 in
set_option maxHeartbeats 1600000 in
theorem rLevel_any (n : Int) (w : World) : Calls Tryd.prog 19 #[.int .i64 n] w fun e w' => e = .returned (.tuple #[.int .i64 (levR n).1, .int .i64 (levR n).2]) ∧ Below w.heap.size w w' := by
  by_cases h0 : 0 ≤ n
  case neg =>
    rw [levR_no (by omega)]
    dsimp only
    have h1 : n < 0 := by omega
    go_enter Tryd.func19, Tryd.ntmps19
    go_wp2_with fail
    go_ret2
    exact ⟨rfl, Below.refl _ _⟩
  obtain ⟨d, rfl⟩ := Int.eq_ofNat_of_zero_le h0
  by_cases h1 : d ≤ 108
  case neg =>
    rw [levR_no (by omega)]
    dsimp only
    have h1 : 108 < d := by omega
    go_enter Tryd.func19, Tryd.ntmps19
    go_wp2_with fail
    go_ret2
    exact ⟨rfl, Below.refl _ _⟩
  rw [levR_ok h1]
  dsimp only
  have h2 : decide (108 < d) = false := by simpa using h1
  have hm : (d : Int).tmod 10 = ((d % 10 : Nat) : Int) := rfl
  have hq : (d : Int).tdiv 10 = ((d / 10 : Nat) : Int) := rfl
  have hlt : d % 10 < 10 := by omega
  have hle : d / 10 ≤ 10 := by omega
  have HL : Hid (lev d = tv (d % 10) (d / 10) / 1000) := Lib.hid rfl
  generalize lev d = LD at HL ⊢
  generalize d % 10 = m at *
  generalize d / 10 = q at *
  have h10 : m = 0 ∨ m = 1 ∨ m = 2 ∨ m = 3 ∨ m = 4 ∨ m = 5 ∨ m = 6 ∨ m = 7 ∨ m = 8 ∨ m = 9 := by omega
  go_enter Tryd.func19, Tryd.ntmps19
  go_upto_region 4 with fail
  go_cut [5] (fun s5 W => s5 = .int .i64 (tv m 0) ∧ W = w.alloc (.cells #[.int .i64 1000, .int .i64 1259, .int .i64 1585, .int .i64 1995, .int .i64 2512, .int .i64 3162, .int .i64 3981, .int .i64 5012, .int .i64 6310, .int .i64 7943] 51))
  case first =>
    rcases h10 with rfl | rfl | rfl | rfl | rfl | rfl | rfl | rfl | rfl | rfl
    all_goals
      go_wp2_with fail
      go_meet
      exact ⟨rfl, rfl⟩
  case rest =>
  obtain ⟨rfl, rfl⟩ := hcut
  go_wp2_with fail
  go_loop [5, 6] (fun s3 i => ∃ k : Nat, k ≤ q ∧ i = .int .i64 k ∧ s3 = .int .i64 (tv m k)) (fun _ i => q - (intOf i).toNat)
  case atStart => exact ⟨0, by omega, rfl, rfl⟩
  case round =>
    obtain ⟨k, hk, rfl, rfl⟩ := hrel
    obtain ⟨t1, t2⟩ := tv_bound m k (by omega)
    by_cases hkq : k < q
    · have hkq' : (k : Int) < q := by omega
      have HT := Lib.hid (tv_succ m k)
      go_wp2_with fail
      go_round
      case rel => exact ⟨k + 1, by omega, by go_num, by rw [HT.out]⟩
      case measure => simp [intOf]; omega
    · obtain rfl : k = q := by omega
      go_wp2_with fail
      go_ret2
      exact ⟨by rw [HL.out]; rfl, (Below.refl _ _).alloc (Nat.le_refl _) _⟩

end Go.Proofs.YtaafmckdmeikjaaDoor
