/- Walks of package power: power, conditions, Level; of the reference: Is, Right. -/
import Derived.Test.YtaafmckdmeikjaaDoorPow
namespace Go.Proofs.YtaafmckdmeikjaaDoor
open Go.RowKit

theorem pow_is (n : Int) (b : Bool) (hb : isP n = b) (w : World) : Calls Tryd.prog 21 #[.int .i64 n] w fun e w' => e = .returned (.bool b) ∧ w = w' := by
  have Hb := Lib.hid hb
  clear hb
  by_cases h0 : 0 ≤ n
  · by_cases h1 : n ≤ 68719476736
    · obtain rfl : b = true := by rw [← Hb.out]; exact decide_eq_true ⟨h0, h1⟩
      go_enter Tryd.func21, Tryd.ntmps21
      go_wp2_with fail
      go_ret
      exact ⟨rfl, rfl⟩
    · obtain rfl : b = false := by rw [← Hb.out]; exact decide_eq_false (by omega)
      have h2 : decide (n ≤ 68719476736) = false := by simpa using h1
      go_enter Tryd.func21, Tryd.ntmps21
      go_wp2_with fail
      go_ret
      exact ⟨rfl, rfl⟩
  · obtain rfl : b = false := by rw [← Hb.out]; exact decide_eq_false (by omega)
    have h2 : decide (0 ≤ n) = false := by simpa using h0
    go_enter Tryd.func21, Tryd.ntmps21
    go_wp2_with fail
    go_ret
    exact ⟨rfl, rfl⟩

theorem cnd_is (t n : Int) (b : Bool) (hb : isC t n = b) (w : World) : Calls Tryd.prog 24 #[.int .i64 t, .int .i64 n] w fun e w' => e = .returned (.bool b) ∧ w = w' := by
  have Hb := Lib.hid hb
  clear hb
  by_cases h0 : 1000 ≤ t
  case neg =>
    obtain rfl : b = false := by rw [← Hb.out]; exact decide_eq_false (by omega)
    have h2 : decide (1000 ≤ t) = false := by simpa using h0
    go_enter Tryd.func24, Tryd.ntmps24
    go_wp2_with fail
    go_ret
    exact ⟨rfl, rfl⟩
  by_cases h1 : t ≤ 100000
  case neg =>
    obtain rfl : b = false := by rw [← Hb.out]; exact decide_eq_false (by omega)
    have h2 : decide (t ≤ 100000) = false := by simpa using h1
    go_enter Tryd.func24, Tryd.ntmps24
    go_wp2_with fail
    go_ret
    exact ⟨rfl, rfl⟩
  by_cases h2 : 1 ≤ n
  case neg =>
    obtain rfl : b = false := by rw [← Hb.out]; exact decide_eq_false (by omega)
    have h2 : decide (1 ≤ n) = false := by simpa using h2
    go_enter Tryd.func24, Tryd.ntmps24
    go_wp2_with fail
    go_ret
    exact ⟨rfl, rfl⟩
  by_cases h3 : n ≤ 68719476736
  case neg =>
    obtain rfl : b = false := by rw [← Hb.out]; exact decide_eq_false (by omega)
    have h2 : decide (n ≤ 68719476736) = false := by simpa using h3
    go_enter Tryd.func24, Tryd.ntmps24
    go_wp2_with fail
    go_ret
    exact ⟨rfl, rfl⟩
  obtain rfl : b = true := by rw [← Hb.out]; exact decide_eq_true ⟨h0, h1, h2, h3⟩
  go_enter Tryd.func24, Tryd.ntmps24
  go_wp2_with fail
  go_ret
  exact ⟨rfl, rfl⟩

theorem Level_any (n : Int) (w : World) : Calls Tryd.prog 9 #[.int .i64 n] w fun e w' => e = .returned (.tuple #[.int .i64 (levR n).1, .int .i64 (levR n).2]) ∧ w = w' := by
  by_cases h0 : 0 ≤ n
  case neg =>
    rw [levR_no (by omega)]
    dsimp only
    have h1 : n < 0 := by omega
    go_enter Tryd.func9, Tryd.ntmps9
    go_wp2_with fail
    go_ret2
    exact ⟨rfl, rfl⟩
  obtain ⟨d, rfl⟩ := Int.eq_ofNat_of_zero_le h0
  by_cases h1 : d ≤ 108
  case neg =>
    rw [levR_no (by omega)]
    dsimp only
    have h1 : 108 < d := by omega
    go_enter Tryd.func9, Tryd.ntmps9
    go_wp2_with fail
    go_ret2
    exact ⟨rfl, rfl⟩
  rw [levR_ok h1]
  dsimp only
  have h2 : decide (108 < d) = false := by simpa using h1
  go_enter Tryd.func9, Tryd.ntmps9
  go_wp2_with (go_at_call 20; (with_reducible refine (level_any d (by omega) _).mono ?_); rintro e w' ⟨rfl, rfl⟩)
  go_ret2
  exact ⟨rfl, rfl⟩

end Go.Proofs.YtaafmckdmeikjaaDoor
