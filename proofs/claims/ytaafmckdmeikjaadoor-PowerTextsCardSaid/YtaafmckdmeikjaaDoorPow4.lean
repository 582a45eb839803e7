/- Walks of Scale, Margin and Least, of the package and of the reference. -/
import Derived.Test.YtaafmckdmeikjaaDoorPow2
namespace Go.Proofs.YtaafmckdmeikjaaDoor
open Go.RowKit
theorem ret_pair {a b c : Int} (h : a = b) : Ending.returned (.tuple #[.int .i64 a, .int .i64 c]) = .returned (.tuple #[.int .i64 b, .int .i64 c]) := by rw [h]

theorem Margin_any (s t n : Int) (w : World) : Calls Tryd.prog 11 #[.int .i64 s, .int .i64 t, .int .i64 n] w fun e w' => e = .returned (.tuple #[.int .i64 (marR s t n).1, .int .i64 (marR s t n).2]) ∧ w = w' := by
  rcases hb : isP s with _ | _
  · have HR : marR s t n = (0, 2) := by unfold marR; rw [if_neg (by simp [hb])]
    rw [HR]; dsimp only; clear HR
    go_enter Tryd.func11, Tryd.ntmps11
    go_wp2_with (first | (go_at_call 21; (with_reducible refine (pow_is _ _ hb _).mono ?_); rintro e w' ⟨rfl, rfl⟩) | (go_at_call 24; (with_reducible refine (cnd_is _ _ _ hc _).mono ?_); rintro e w' ⟨rfl, rfl⟩))
    go_ret2
    exact ⟨rfl, rfl⟩
  rcases hc : isC t n with _ | _
  · have HR : marR s t n = (0, 2) := by unfold marR; rw [if_neg (by simp [hc])]
    rw [HR]; dsimp only; clear HR
    go_enter Tryd.func11, Tryd.ntmps11
    go_wp2_with (first | (go_at_call 21; (with_reducible refine (pow_is _ _ hb _).mono ?_); rintro e w' ⟨rfl, rfl⟩) | (go_at_call 24; (with_reducible refine (cnd_is _ _ _ hc _).mono ?_); rintro e w' ⟨rfl, rfl⟩))
    go_ret2
    exact ⟨rfl, rfl⟩
  have HR : marR s t n = (max (1000 * s / t - n) (-1), 0) := by unfold marR; rw [if_pos ⟨hb, hc⟩]
  rw [HR]; dsimp only; clear HR
  obtain ⟨s0, s1⟩ := isP_t hb
  obtain ⟨t0, t1, n0, n1⟩ := isC_t hc
  have q0 : 0 ≤ 1000 * s / t := Int.ediv_nonneg (by omega) (by omega)
  have q1 : 1000 * s / t ≤ 1000 * s := Int.ediv_le_self _ (by omega)
  have q2 : (1000 * s).tdiv t = 1000 * s / t := Int.tdiv_eq_ediv_of_nonneg (by omega)
  have q3 : (t == 0) = false := by simp; omega
  go_enter Tryd.func11, Tryd.ntmps11
  go_wp2_with (first | (go_at_call 21; (with_reducible refine (pow_is _ _ hb _).mono ?_); rintro e w' ⟨rfl, rfl⟩) | (go_at_call 24; (with_reducible refine (cnd_is _ _ _ hc _).mono ?_); rintro e w' ⟨rfl, rfl⟩))
  all_goals
    go_ret2
    exact ⟨ret_pair (by omega), rfl⟩

theorem Least_any (t n i : Int) (w : World) : Calls Tryd.prog 12 #[.int .i64 t, .int .i64 n, .int .i64 i] w fun e w' => e = .returned (.tuple #[.int .i64 (lstR t n i).1, .int .i64 (lstR t n i).2]) ∧ w = w' := by
  rcases hc : isC t n with _ | _
  · have HR : lstR t n i = (0, 2) := by unfold lstR; rw [if_neg (by simp [hc])]
    rw [HR]; dsimp only; clear HR
    go_enter Tryd.func12, Tryd.ntmps12
    go_wp2_with (go_at_call 24; (with_reducible refine (cnd_is _ _ _ hc _).mono ?_); rintro e w' ⟨rfl, rfl⟩)
    go_ret2
    exact ⟨rfl, rfl⟩
  by_cases h0 : 0 ≤ i
  case neg =>
    have HR : lstR t n i = (0, 2) := by unfold lstR; rw [if_neg (by omega)]
    rw [HR]; dsimp only; clear HR
    have h0' : decide (i < 0) = true := decide_eq_true (by omega)
    go_enter Tryd.func12, Tryd.ntmps12
    go_wp2_with (go_at_call 24; (with_reducible refine (cnd_is _ _ _ hc _).mono ?_); rintro e w' ⟨rfl, rfl⟩)
    go_ret2
    exact ⟨rfl, rfl⟩
  have h0' : decide (i < 0) = false := decide_eq_false (by omega)
  by_cases h1 : i ≤ 4398046511104
  case neg =>
    have HR : lstR t n i = (0, 2) := by unfold lstR; rw [if_neg (by omega)]
    rw [HR]; dsimp only; clear HR
    have h1' : decide (4398046511104 < i) = true := decide_eq_true (by omega)
    go_enter Tryd.func12, Tryd.ntmps12
    go_wp2_with (go_at_call 24; (with_reducible refine (cnd_is _ _ _ hc _).mono ?_); rintro e w' ⟨rfl, rfl⟩)
    go_ret2
    exact ⟨rfl, rfl⟩
  have h1' : decide (4398046511104 < i) = false := decide_eq_false (by omega)
  have HR : lstR t n i = (if 68719476736 < (t * (n + i) + 999) / 1000 then (0, 8) else ((t * (n + i) + 999) / 1000, 0)) := by unfold lstR; rw [if_pos ⟨hc, h0, h1⟩]
  obtain ⟨t0, t1, n0, n1⟩ := isC_t hc
  obtain ⟨m0, m1⟩ := mul_bound (a := t) (b := n + i) (A := 100000) (B := 4466765987840) (by omega) t1 (by omega) (by omega)
  by_cases hg : 68719476736 < (t * (n + i) + 999) / 1000
  · rw [if_pos hg] at HR
    rw [HR]; dsimp only; clear HR
    go_enter Tryd.func12, Tryd.ntmps12
    go_wp2_with (go_at_call 24; (with_reducible refine (cnd_is _ _ _ hc _).mono ?_); rintro e w' ⟨rfl, rfl⟩)
    go_ret2
    exact ⟨rfl, rfl⟩
  · rw [if_neg hg] at HR
    rw [HR]; dsimp only; clear HR
    have hg' : decide (68719476736 < (t * (n + i) + 999) / 1000) = false := decide_eq_false hg
    go_enter Tryd.func12, Tryd.ntmps12
    go_wp2_with (go_at_call 24; (with_reducible refine (cnd_is _ _ _ hc _).mono ?_); rintro e w' ⟨rfl, rfl⟩)
    go_ret2
    exact ⟨rfl, rfl⟩

end Go.Proofs.YtaafmckdmeikjaaDoor
