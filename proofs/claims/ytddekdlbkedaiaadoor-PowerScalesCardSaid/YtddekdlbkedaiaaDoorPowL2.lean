/- The walk of PowerScales. -/
import Derived.Test.YtddekdlbkedaiaaDoorPow7
namespace Go.Proofs.YtddekdlbkedaiaaDoor
open Go.RowKit

theorem sclR_ok {p f : Int} (hp : 0 ≤ p ∧ p ≤ 68719476736) (hf : 0 ≤ f ∧ f ≤ 1000) : sclR p f = (p * f / 1000, 0) := by unfold sclR; rw [if_pos ⟨hp, hf⟩]
theorem sclR_no {p f : Int} (h : ¬((0 ≤ p ∧ p ≤ 68719476736) ∧ 0 ≤ f ∧ f ≤ 1000)) : sclR p f = (0, 2) := by unfold sclR; rw [if_neg h]
theorem Scale_at (p f x y : Int) (h : sclR p f = (x, y)) (w : World) : Calls Tryd.prog 15 #[.int .i64 p, .int .i64 f] w fun e w' => e = .returned (.tuple #[.int .i64 x, .int .i64 y]) ∧ w = w' := by
  have := Scale_any p f w
  rw [h] at this
  exact this
set_option maxRecDepth 100000 in
set_option maxHeartbeats 1000000 in
theorem powerScales_walk (a b f : Int) (w : World) : Calls Tryd.prog 5 #[.int .i64 a, .int .i64 b, .int .i64 f] w fun e w' => e = .returned (.bool true) ∧ Below w.heap.size w w' := by
  by_cases hA : (0 ≤ a ∧ a ≤ 68719476736) ∧ 0 ≤ f ∧ f ≤ 1000
  case neg =>
    have H1 := Lib.hid (Scale_at a f 0 2 (sclR_no hA))
    by_cases hB : (0 ≤ b ∧ b ≤ 68719476736) ∧ 0 ≤ f ∧ f ≤ 1000
    · have H2 := Lib.hid (Scale_at b f _ _ (sclR_ok hB.1 hB.2))
      clear hA hB
      go_enter Tryd.func5, Tryd.ntmps5
      go_wp2_with (first | (go_at_call 10; (with_reducible refine (awake_any _).mono ?_); rintro e w1 ⟨rfl, hb1⟩) | (go_at_call 15; (with_reducible refine (H1.out _).mono ?_); rintro e w' ⟨rfl, rfl⟩) | (go_at_call 15; (with_reducible refine (H2.out _).mono ?_); rintro e w' ⟨rfl, rfl⟩))
      go_ret
      exact ⟨rfl, hb1⟩
    · have H2 := Lib.hid (Scale_at b f 0 2 (sclR_no hB))
      clear hA hB
      go_enter Tryd.func5, Tryd.ntmps5
      go_wp2_with (first | (go_at_call 10; (with_reducible refine (awake_any _).mono ?_); rintro e w1 ⟨rfl, hb1⟩) | (go_at_call 15; (with_reducible refine (H1.out _).mono ?_); rintro e w' ⟨rfl, rfl⟩) | (go_at_call 15; (with_reducible refine (H2.out _).mono ?_); rintro e w' ⟨rfl, rfl⟩))
      go_ret
      exact ⟨rfl, hb1⟩
  have H1 := Lib.hid (Scale_at a f _ _ (sclR_ok hA.1 hA.2))
  by_cases hB : (0 ≤ b ∧ b ≤ 68719476736) ∧ 0 ≤ f ∧ f ≤ 1000
  case neg =>
    have H2 := Lib.hid (Scale_at b f 0 2 (sclR_no hB))
    clear hA hB
    go_enter Tryd.func5, Tryd.ntmps5
    go_wp2_with (first | (go_at_call 10; (with_reducible refine (awake_any _).mono ?_); rintro e w1 ⟨rfl, hb1⟩) | (go_at_call 15; (with_reducible refine (H1.out _).mono ?_); rintro e w' ⟨rfl, rfl⟩) | (go_at_call 15; (with_reducible refine (H2.out _).mono ?_); rintro e w' ⟨rfl, rfl⟩))
    go_ret
    exact ⟨rfl, hb1⟩
  have H2 := Lib.hid (Scale_at b f _ _ (sclR_ok hB.1 hB.2))
  have H3 := Lib.hid (Scale_at a 1000 a 0 (by rw [sclR_ok hA.1 (by omega), Int.mul_ediv_cancel _ (by decide)]))
  have H4 := Lib.hid (Scale_at a 0 0 0 (by rw [sclR_ok hA.1 (by omega)]; simp))
  have x0 : 0 ≤ a * f / 1000 := Int.ediv_nonneg (Int.mul_nonneg hA.1.1 hA.2.1) (by decide)
  have x1 : a * f / 1000 ≤ a := by
    have : a * f ≤ a * 1000 := Int.mul_le_mul_of_nonneg_left hA.2.2 hA.1.1
    omega
  have x2 : b < a ∨ a * f / 1000 ≤ b * f / 1000 := by
    by_cases h : b < a
    · exact Or.inl h
    · right
      have : a * f ≤ b * f := Int.mul_le_mul_of_nonneg_right (by omega) hA.2.1
      omega
  generalize a * f / 1000 = X at *
  generalize b * f / 1000 = Y at *
  clear hA hB
  by_cases hab : b < a
  · have hab' : decide (b < a) = true := decide_eq_true hab
    clear x2
    go_enter Tryd.func5, Tryd.ntmps5
    go_wp2_with (first | (go_at_call 10; (with_reducible refine (awake_any _).mono ?_); rintro e w1 ⟨rfl, hb1⟩) | (go_at_call 15; (with_reducible refine (H1.out _).mono ?_); rintro e w' ⟨rfl, rfl⟩) | (go_at_call 15; (with_reducible refine (H2.out _).mono ?_); rintro e w' ⟨rfl, rfl⟩) | (go_at_call 15; (with_reducible refine (H3.out _).mono ?_); rintro e w' ⟨rfl, rfl⟩) | (go_at_call 15; (with_reducible refine (H4.out _).mono ?_); rintro e w' ⟨rfl, rfl⟩))
    go_ret
    exact ⟨rfl, hb1⟩
  · have hab' : decide (b < a) = false := decide_eq_false hab
    have x3 : X ≤ Y := by omega
    clear x2
    go_enter Tryd.func5, Tryd.ntmps5
    go_wp2_with (first | (go_at_call 10; (with_reducible refine (awake_any _).mono ?_); rintro e w1 ⟨rfl, hb1⟩) | (go_at_call 15; (with_reducible refine (H1.out _).mono ?_); rintro e w' ⟨rfl, rfl⟩) | (go_at_call 15; (with_reducible refine (H2.out _).mono ?_); rintro e w' ⟨rfl, rfl⟩) | (go_at_call 15; (with_reducible refine (H3.out _).mono ?_); rintro e w' ⟨rfl, rfl⟩) | (go_at_call 15; (with_reducible refine (H4.out _).mono ?_); rintro e w' ⟨rfl, rfl⟩))
    go_ret
    exact ⟨rfl, hb1⟩

end Go.Proofs.YtddekdlbkedaiaaDoor
