/- The walk of PowerOrder. -/
import Derived.Test.YtddekdlbkedaiaaDoorPow7
namespace Go.Proofs.YtddekdlbkedaiaaDoor
open Go.RowKit
theorem levR_succ {d : Nat} (h : d + 1 ≤ 108) : levR ((d : Int) + 1) = (lev (d + 1), 0) := levR_ok h
theorem Level_at (n x y : Int) (h : levR n = (x, y)) (w : World) : Calls Tryd.prog 11 #[.int .i64 n] w fun e w' => e = .returned (.tuple #[.int .i64 x, .int .i64 y]) ∧ w = w' := by
  have := Level_any n w
  rw [h] at this
  exact this
theorem Decibels_at (n x y : Int) (h : decR n = (x, y)) (w : World) : Calls Tryd.prog 12 #[.int .i64 n] w fun e w' => e = .returned (.tuple #[.int .i64 x, .int .i64 y]) ∧ Below w.heap.size w w' := by
  have := Decibels_any n w
  rw [h] at this
  exact this

set_option maxRecDepth 100000 in
set_option maxHeartbeats 2000000 in
theorem order_out (n u : Int) (w : World) (hn : n < 0 ∨ 108 < n) : Calls Tryd.prog 3 #[.int .i64 n, .int .i64 u] w fun e w' => e = .returned (.bool true) ∧ Below w.heap.size w w' := by
  have HN := Lib.hid (Level_at n 0 2 (levR_no hn))
  clear hn
  by_cases hu : 1 ≤ u ∧ u ≤ 68719476736
  case neg =>
    have HD := Lib.hid (Decibels_at u 0 2 (decR_no (by omega)))
    by_cases hu1 : 1 ≤ u
    · have hu2 : 68719476736 < u := by omega
      have hu3 : decide (u < 1) = false := decide_eq_false (by omega)
      clear hu
      go_enter Tryd.func3, Tryd.ntmps3
      go_wp2_with (first | (go_at_call 10; (with_reducible refine (awake_any _).mono ?_); rintro e w1 ⟨rfl, hb1⟩) | (go_at_call 12; (with_reducible refine (HD.out _).mono ?_); rintro e w2 ⟨rfl, hb2⟩) | (go_at_call 11; (with_reducible refine (HN.out _).mono ?_); rintro e w' ⟨rfl, rfl⟩) | (go_at_call 11; (with_reducible refine (Level_any _ _).mono ?_); rintro e w' ⟨rfl, rfl⟩))
      go_ret
      exact ⟨rfl, hb1.trans (hb2.mono hb1.size)⟩
    · have hu2 : u < 1 := by omega
      clear hu
      go_enter Tryd.func3, Tryd.ntmps3
      go_wp2_with (first | (go_at_call 10; (with_reducible refine (awake_any _).mono ?_); rintro e w1 ⟨rfl, hb1⟩) | (go_at_call 12; (with_reducible refine (HD.out _).mono ?_); rintro e w2 ⟨rfl, hb2⟩) | (go_at_call 11; (with_reducible refine (HN.out _).mono ?_); rintro e w' ⟨rfl, rfl⟩) | (go_at_call 11; (with_reducible refine (Level_any _ _).mono ?_); rintro e w' ⟨rfl, rfl⟩))
      go_ret
      exact ⟨rfl, hb1.trans (hb2.mono hb1.size)⟩
  have HD := Lib.hid (Decibels_at u _ _ (decR_ok hu))
  obtain ⟨d1, d2, d3⟩ := dec_spec hu.1
  generalize dec u = D at HD d1 d2 d3
  by_cases hD : D = 108
  · subst hD
    have HL := Lib.hid (Level_at 108 (lev 108) 0 (levR_ok (d := 108) d1))
    have HM := Lib.hid (Level_at 109 0 2 (levR_no (by omega)))
    have hD2 : (((108 : Nat) : Int) == 108) = true := rfl
    generalize lev 108 = X at HL d2
    clear hu d1 d3
    go_enter Tryd.func3, Tryd.ntmps3
    go_wp2_with (first | (go_at_call 10; (with_reducible refine (awake_any _).mono ?_); rintro e w1 ⟨rfl, hb1⟩) | (go_at_call 12; (with_reducible refine (HD.out _).mono ?_); rintro e w2 ⟨rfl, hb2⟩) | (go_at_call 11; (with_reducible refine (HL.out _).mono ?_); rintro e w' ⟨rfl, rfl⟩) | (go_at_call 11; (with_reducible refine (HM.out _).mono ?_); rintro e w' ⟨rfl, rfl⟩) | (go_at_call 11; (with_reducible refine (HN.out _).mono ?_); rintro e w' ⟨rfl, rfl⟩) | (go_at_call 11; (with_reducible refine (Level_any _ _).mono ?_); rintro e w' ⟨rfl, rfl⟩))
    go_ret
    exact ⟨rfl, hb1.trans (hb2.mono hb1.size)⟩
  · have d4 := d3.resolve_left hD
    have HL := Lib.hid (Level_at (D : Int) (lev D) 0 (levR_ok d1))
    have HM := Lib.hid (Level_at ((D : Int) + 1) (lev (D + 1)) 0 (levR_succ (by omega)))
    have hD2 : ((D : Int) == 108) = false := by simp; omega
    have hD3 : D < 108 := by omega
    generalize lev D = X at HL d2
    generalize lev (D + 1) = Y at HM d4
    clear hu d1 d3 hD
    go_enter Tryd.func3, Tryd.ntmps3
    go_wp2_with (first | (go_at_call 10; (with_reducible refine (awake_any _).mono ?_); rintro e w1 ⟨rfl, hb1⟩) | (go_at_call 12; (with_reducible refine (HD.out _).mono ?_); rintro e w2 ⟨rfl, hb2⟩) | (go_at_call 11; (with_reducible refine (HL.out _).mono ?_); rintro e w' ⟨rfl, rfl⟩) | (go_at_call 11; (with_reducible refine (HM.out _).mono ?_); rintro e w' ⟨rfl, rfl⟩) | (go_at_call 11; (with_reducible refine (HN.out _).mono ?_); rintro e w' ⟨rfl, rfl⟩) | (go_at_call 11; (with_reducible refine (Level_any _ _).mono ?_); rintro e w' ⟨rfl, rfl⟩))
    go_ret
    exact ⟨rfl, hb1.trans (hb2.mono hb1.size)⟩

set_option maxRecDepth 100000 in
set_option maxHeartbeats 2000000 in
theorem order_top (n u : Int) (w : World) (hn : n = 108) : Calls Tryd.prog 3 #[.int .i64 n, .int .i64 u] w fun e w' => e = .returned (.bool true) ∧ Below w.heap.size w w' := by
  subst hn
  have HN := Lib.hid (Level_at 108 (lev 108) 0 (levR_ok (d := 108) (by omega)))
  have HO := Lib.hid (Level_at 109 0 2 (levR_no (by omega)))
  generalize lev 108 = E at HN
  by_cases hu : 1 ≤ u ∧ u ≤ 68719476736
  case neg =>
    have HD := Lib.hid (Decibels_at u 0 2 (decR_no (by omega)))
    by_cases hu1 : 1 ≤ u
    · have hu2 : 68719476736 < u := by omega
      have hu3 : decide (u < 1) = false := decide_eq_false (by omega)
      clear hu
      go_enter Tryd.func3, Tryd.ntmps3
      go_wp2_with (first | (go_at_call 10; (with_reducible refine (awake_any _).mono ?_); rintro e w1 ⟨rfl, hb1⟩) | (go_at_call 12; (with_reducible refine (HD.out _).mono ?_); rintro e w2 ⟨rfl, hb2⟩) | (go_at_call 11; (with_reducible refine (HN.out _).mono ?_); rintro e w' ⟨rfl, rfl⟩) | (go_at_call 11; (with_reducible refine (HO.out _).mono ?_); rintro e w' ⟨rfl, rfl⟩))
      go_ret
      exact ⟨rfl, hb1.trans (hb2.mono hb1.size)⟩
    · have hu2 : u < 1 := by omega
      clear hu
      go_enter Tryd.func3, Tryd.ntmps3
      go_wp2_with (first | (go_at_call 10; (with_reducible refine (awake_any _).mono ?_); rintro e w1 ⟨rfl, hb1⟩) | (go_at_call 12; (with_reducible refine (HD.out _).mono ?_); rintro e w2 ⟨rfl, hb2⟩) | (go_at_call 11; (with_reducible refine (HN.out _).mono ?_); rintro e w' ⟨rfl, rfl⟩) | (go_at_call 11; (with_reducible refine (HO.out _).mono ?_); rintro e w' ⟨rfl, rfl⟩))
      go_ret
      exact ⟨rfl, hb1.trans (hb2.mono hb1.size)⟩
  have HD := Lib.hid (Decibels_at u _ _ (decR_ok hu))
  obtain ⟨d1, d2, d3⟩ := dec_spec hu.1
  generalize dec u = D at HD d1 d2 d3
  by_cases hD : D = 108
  · subst hD
    have HL := Lib.hid (Level_at 108 (lev 108) 0 (levR_ok (d := 108) d1))
    have HM := Lib.hid (Level_at 109 0 2 (levR_no (by omega)))
    have hD2 : (((108 : Nat) : Int) == 108) = true := rfl
    generalize lev 108 = X at HL d2
    clear hu d1 d3
    go_enter Tryd.func3, Tryd.ntmps3
    go_wp2_with (first | (go_at_call 10; (with_reducible refine (awake_any _).mono ?_); rintro e w1 ⟨rfl, hb1⟩) | (go_at_call 12; (with_reducible refine (HD.out _).mono ?_); rintro e w2 ⟨rfl, hb2⟩) | (go_at_call 11; (with_reducible refine (HL.out _).mono ?_); rintro e w' ⟨rfl, rfl⟩) | (go_at_call 11; (with_reducible refine (HM.out _).mono ?_); rintro e w' ⟨rfl, rfl⟩) | (go_at_call 11; (with_reducible refine (HN.out _).mono ?_); rintro e w' ⟨rfl, rfl⟩) | (go_at_call 11; (with_reducible refine (HO.out _).mono ?_); rintro e w' ⟨rfl, rfl⟩))
    go_ret
    exact ⟨rfl, hb1.trans (hb2.mono hb1.size)⟩
  · have d4 := d3.resolve_left hD
    have HL := Lib.hid (Level_at (D : Int) (lev D) 0 (levR_ok d1))
    have HM := Lib.hid (Level_at ((D : Int) + 1) (lev (D + 1)) 0 (levR_succ (by omega)))
    have hD2 : ((D : Int) == 108) = false := by simp; omega
    have hD3 : D < 108 := by omega
    generalize lev D = X at HL d2
    generalize lev (D + 1) = Y at HM d4
    clear hu d1 d3 hD
    go_enter Tryd.func3, Tryd.ntmps3
    go_wp2_with (first | (go_at_call 10; (with_reducible refine (awake_any _).mono ?_); rintro e w1 ⟨rfl, hb1⟩) | (go_at_call 12; (with_reducible refine (HD.out _).mono ?_); rintro e w2 ⟨rfl, hb2⟩) | (go_at_call 11; (with_reducible refine (HL.out _).mono ?_); rintro e w' ⟨rfl, rfl⟩) | (go_at_call 11; (with_reducible refine (HM.out _).mono ?_); rintro e w' ⟨rfl, rfl⟩) | (go_at_call 11; (with_reducible refine (HN.out _).mono ?_); rintro e w' ⟨rfl, rfl⟩) | (go_at_call 11; (with_reducible refine (HO.out _).mono ?_); rintro e w' ⟨rfl, rfl⟩))
    go_ret
    exact ⟨rfl, hb1.trans (hb2.mono hb1.size)⟩

set_option maxRecDepth 100000 in
set_option maxHeartbeats 2000000 in
theorem order_low (n u : Int) (w : World) (h0 : 0 ≤ n) (h2 : n < 108) (h1 : n < 6) : Calls Tryd.prog 3 #[.int .i64 n, .int .i64 u] w fun e w' => e = .returned (.bool true) ∧ Below w.heap.size w w' := by
  obtain ⟨k, rfl⟩ := Int.eq_ofNat_of_zero_le h0
  have HN := Lib.hid (Level_at (k : Int) (lev k) 0 (levR_ok (by omega)))
  have HO := Lib.hid (Level_at ((k : Int) + 1) (lev (k + 1)) 0 (levR_succ (by omega)))
  have hs := lev_step k (by omega)
  generalize lev k = E at *
  generalize lev (k + 1) = G at *
  have e1 : decide (G < E) = false := decide_eq_false (by omega)
  have e2 : decide (6 ≤ (k : Int)) = false := decide_eq_false (by omega)
  have e3 : decide (6 ≤ k) = false := decide_eq_false (by omega)
  by_cases hu : 1 ≤ u ∧ u ≤ 68719476736
  case neg =>
    have HD := Lib.hid (Decibels_at u 0 2 (decR_no (by omega)))
    by_cases hu1 : 1 ≤ u
    · have hu2 : 68719476736 < u := by omega
      have hu3 : decide (u < 1) = false := decide_eq_false (by omega)
      clear hu
      go_enter Tryd.func3, Tryd.ntmps3
      go_wp2_with (first | (go_at_call 10; (with_reducible refine (awake_any _).mono ?_); rintro e w1 ⟨rfl, hb1⟩) | (go_at_call 12; (with_reducible refine (HD.out _).mono ?_); rintro e w2 ⟨rfl, hb2⟩) | (go_at_call 11; (with_reducible refine (HN.out _).mono ?_); rintro e w' ⟨rfl, rfl⟩) | (go_at_call 11; (with_reducible refine (HO.out _).mono ?_); rintro e w' ⟨rfl, rfl⟩))
      go_ret
      exact ⟨rfl, hb1.trans (hb2.mono hb1.size)⟩
    · have hu2 : u < 1 := by omega
      clear hu
      go_enter Tryd.func3, Tryd.ntmps3
      go_wp2_with (first | (go_at_call 10; (with_reducible refine (awake_any _).mono ?_); rintro e w1 ⟨rfl, hb1⟩) | (go_at_call 12; (with_reducible refine (HD.out _).mono ?_); rintro e w2 ⟨rfl, hb2⟩) | (go_at_call 11; (with_reducible refine (HN.out _).mono ?_); rintro e w' ⟨rfl, rfl⟩) | (go_at_call 11; (with_reducible refine (HO.out _).mono ?_); rintro e w' ⟨rfl, rfl⟩))
      go_ret
      exact ⟨rfl, hb1.trans (hb2.mono hb1.size)⟩
  have HD := Lib.hid (Decibels_at u _ _ (decR_ok hu))
  obtain ⟨d1, d2, d3⟩ := dec_spec hu.1
  generalize dec u = D at HD d1 d2 d3
  by_cases hD : D = 108
  · subst hD
    have HL := Lib.hid (Level_at 108 (lev 108) 0 (levR_ok (d := 108) d1))
    have HM := Lib.hid (Level_at 109 0 2 (levR_no (by omega)))
    have hD2 : (((108 : Nat) : Int) == 108) = true := rfl
    generalize lev 108 = X at HL d2
    clear hu d1 d3
    go_enter Tryd.func3, Tryd.ntmps3
    go_wp2_with (first | (go_at_call 10; (with_reducible refine (awake_any _).mono ?_); rintro e w1 ⟨rfl, hb1⟩) | (go_at_call 12; (with_reducible refine (HD.out _).mono ?_); rintro e w2 ⟨rfl, hb2⟩) | (go_at_call 11; (with_reducible refine (HL.out _).mono ?_); rintro e w' ⟨rfl, rfl⟩) | (go_at_call 11; (with_reducible refine (HM.out _).mono ?_); rintro e w' ⟨rfl, rfl⟩) | (go_at_call 11; (with_reducible refine (HN.out _).mono ?_); rintro e w' ⟨rfl, rfl⟩) | (go_at_call 11; (with_reducible refine (HO.out _).mono ?_); rintro e w' ⟨rfl, rfl⟩))
    go_ret
    exact ⟨rfl, hb1.trans (hb2.mono hb1.size)⟩
  · have d4 := d3.resolve_left hD
    have HL := Lib.hid (Level_at (D : Int) (lev D) 0 (levR_ok d1))
    have HM := Lib.hid (Level_at ((D : Int) + 1) (lev (D + 1)) 0 (levR_succ (by omega)))
    have hD2 : ((D : Int) == 108) = false := by simp; omega
    have hD3 : D < 108 := by omega
    generalize lev D = X at HL d2
    generalize lev (D + 1) = Y at HM d4
    clear hu d1 d3 hD
    go_enter Tryd.func3, Tryd.ntmps3
    go_wp2_with (first | (go_at_call 10; (with_reducible refine (awake_any _).mono ?_); rintro e w1 ⟨rfl, hb1⟩) | (go_at_call 12; (with_reducible refine (HD.out _).mono ?_); rintro e w2 ⟨rfl, hb2⟩) | (go_at_call 11; (with_reducible refine (HL.out _).mono ?_); rintro e w' ⟨rfl, rfl⟩) | (go_at_call 11; (with_reducible refine (HM.out _).mono ?_); rintro e w' ⟨rfl, rfl⟩) | (go_at_call 11; (with_reducible refine (HN.out _).mono ?_); rintro e w' ⟨rfl, rfl⟩) | (go_at_call 11; (with_reducible refine (HO.out _).mono ?_); rintro e w' ⟨rfl, rfl⟩))
    go_ret
    exact ⟨rfl, hb1.trans (hb2.mono hb1.size)⟩

set_option maxRecDepth 100000 in
set_option maxHeartbeats 2000000 in
theorem order_high (n u : Int) (w : World) (h0 : 0 ≤ n) (h2 : n < 108) (h1 : 6 ≤ n) : Calls Tryd.prog 3 #[.int .i64 n, .int .i64 u] w fun e w' => e = .returned (.bool true) ∧ Below w.heap.size w w' := by
  obtain ⟨k, rfl⟩ := Int.eq_ofNat_of_zero_le h0
  have HN := Lib.hid (Level_at (k : Int) (lev k) 0 (levR_ok (by omega)))
  have HO := Lib.hid (Level_at ((k : Int) + 1) (lev (k + 1)) 0 (levR_succ (by omega)))
  have hs := lev_step k (by omega)
  have hst := lev_strict k (by omega) (by omega)
  generalize lev k = E at *
  generalize lev (k + 1) = G at *
  have e1 : decide (G < E) = false := decide_eq_false (by omega)
  have e2 : (E == G) = false := by simp; omega
  clear hst
  by_cases hu : 1 ≤ u ∧ u ≤ 68719476736
  case neg =>
    have HD := Lib.hid (Decibels_at u 0 2 (decR_no (by omega)))
    by_cases hu1 : 1 ≤ u
    · have hu2 : 68719476736 < u := by omega
      have hu3 : decide (u < 1) = false := decide_eq_false (by omega)
      clear hu
      go_enter Tryd.func3, Tryd.ntmps3
      go_wp2_with (first | (go_at_call 10; (with_reducible refine (awake_any _).mono ?_); rintro e w1 ⟨rfl, hb1⟩) | (go_at_call 12; (with_reducible refine (HD.out _).mono ?_); rintro e w2 ⟨rfl, hb2⟩) | (go_at_call 11; (with_reducible refine (HN.out _).mono ?_); rintro e w' ⟨rfl, rfl⟩) | (go_at_call 11; (with_reducible refine (HO.out _).mono ?_); rintro e w' ⟨rfl, rfl⟩))
      go_ret
      exact ⟨rfl, hb1.trans (hb2.mono hb1.size)⟩
    · have hu2 : u < 1 := by omega
      clear hu
      go_enter Tryd.func3, Tryd.ntmps3
      go_wp2_with (first | (go_at_call 10; (with_reducible refine (awake_any _).mono ?_); rintro e w1 ⟨rfl, hb1⟩) | (go_at_call 12; (with_reducible refine (HD.out _).mono ?_); rintro e w2 ⟨rfl, hb2⟩) | (go_at_call 11; (with_reducible refine (HN.out _).mono ?_); rintro e w' ⟨rfl, rfl⟩) | (go_at_call 11; (with_reducible refine (HO.out _).mono ?_); rintro e w' ⟨rfl, rfl⟩))
      go_ret
      exact ⟨rfl, hb1.trans (hb2.mono hb1.size)⟩
  have HD := Lib.hid (Decibels_at u _ _ (decR_ok hu))
  obtain ⟨d1, d2, d3⟩ := dec_spec hu.1
  generalize dec u = D at HD d1 d2 d3
  by_cases hD : D = 108
  · subst hD
    have HL := Lib.hid (Level_at 108 (lev 108) 0 (levR_ok (d := 108) d1))
    have HM := Lib.hid (Level_at 109 0 2 (levR_no (by omega)))
    have hD2 : (((108 : Nat) : Int) == 108) = true := rfl
    generalize lev 108 = X at HL d2
    clear hu d1 d3
    go_enter Tryd.func3, Tryd.ntmps3
    go_wp2_with (first | (go_at_call 10; (with_reducible refine (awake_any _).mono ?_); rintro e w1 ⟨rfl, hb1⟩) | (go_at_call 12; (with_reducible refine (HD.out _).mono ?_); rintro e w2 ⟨rfl, hb2⟩) | (go_at_call 11; (with_reducible refine (HL.out _).mono ?_); rintro e w' ⟨rfl, rfl⟩) | (go_at_call 11; (with_reducible refine (HM.out _).mono ?_); rintro e w' ⟨rfl, rfl⟩) | (go_at_call 11; (with_reducible refine (HN.out _).mono ?_); rintro e w' ⟨rfl, rfl⟩) | (go_at_call 11; (with_reducible refine (HO.out _).mono ?_); rintro e w' ⟨rfl, rfl⟩))
    go_ret
    exact ⟨rfl, hb1.trans (hb2.mono hb1.size)⟩
  · have d4 := d3.resolve_left hD
    have HL := Lib.hid (Level_at (D : Int) (lev D) 0 (levR_ok d1))
    have HM := Lib.hid (Level_at ((D : Int) + 1) (lev (D + 1)) 0 (levR_succ (by omega)))
    have hD2 : ((D : Int) == 108) = false := by simp; omega
    have hD3 : D < 108 := by omega
    generalize lev D = X at HL d2
    generalize lev (D + 1) = Y at HM d4
    clear hu d1 d3 hD
    go_enter Tryd.func3, Tryd.ntmps3
    go_wp2_with (first | (go_at_call 10; (with_reducible refine (awake_any _).mono ?_); rintro e w1 ⟨rfl, hb1⟩) | (go_at_call 12; (with_reducible refine (HD.out _).mono ?_); rintro e w2 ⟨rfl, hb2⟩) | (go_at_call 11; (with_reducible refine (HL.out _).mono ?_); rintro e w' ⟨rfl, rfl⟩) | (go_at_call 11; (with_reducible refine (HM.out _).mono ?_); rintro e w' ⟨rfl, rfl⟩) | (go_at_call 11; (with_reducible refine (HN.out _).mono ?_); rintro e w' ⟨rfl, rfl⟩) | (go_at_call 11; (with_reducible refine (HO.out _).mono ?_); rintro e w' ⟨rfl, rfl⟩))
    go_ret
    exact ⟨rfl, hb1.trans (hb2.mono hb1.size)⟩

theorem powerOrder_walk (n u : Int) (w : World) : Calls Tryd.prog 3 #[.int .i64 n, .int .i64 u] w fun e w' => e = .returned (.bool true) ∧ Below w.heap.size w w' := by
  by_cases h0 : n < 0 ∨ 108 < n
  · exact order_out n u w h0
  by_cases h1 : n = 108
  · exact order_top n u w h1
  by_cases h2 : n < 6
  · exact order_low n u w (by omega) (by omega) h2
  · exact order_high n u w (by omega) (by omega) (by omega)
end Go.Proofs.YtddekdlbkedaiaaDoor
