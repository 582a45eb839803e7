/- The walk of PowerMargins. -/
import Derived.Test.YtddekdlbkedaiaaDoorPowL4
import Derived.Test.YtddekdlbkedaiaaDoorMixR
import Derived.Test.YtddekdlbkedaiaaDoorOwn
namespace Go.Proofs.YtddekdlbkedaiaaDoor
open Go.RowKit

theorem Received_at (s t n : Int) (l : List Int) (A : Option Addr) (c : Nat) (w : World) (hA : LiesI w w.heap.size A l) (hm : l.length ≤ maxLen) (X : Bool) (E : Int) (h : rcvR s t n l = (X, E)) :
    Calls Tryd.prog 17 #[.int .i64 s, .int .i64 t, .int .i64 n, .slice A l.length c] w fun e w' => e = .returned (.tuple #[.bool X, .int .i64 E]) ∧ w = w' := by
  have := Received_walk s t n l A c w hA hm
  rw [h] at this
  exact this
theorem Sum_at (l : List Int) (A : Option Addr) (c : Nat) (w : World) (hA : LiesI w w.heap.size A l) (hm : l.length ≤ maxLen) (S E : Int) (h : sumR l = (S, E)) :
    Calls Tryd.prog 18 #[.slice A l.length c] w fun e w' => e = .returned (.tuple #[.int .i64 S, .int .i64 E]) ∧ w = w' := by
  have := Sum_walk l A c w hA hm
  rw [h] at this
  exact this
theorem Margin_at (s t n x y : Int) (w : World) (h : marR s t n = (x, y)) : Calls Tryd.prog 22 #[.int .i64 s, .int .i64 t, .int .i64 n] w fun e w' => e = .returned (.tuple #[.int .i64 x, .int .i64 y]) ∧ w = w' := by
  have := Margin_any s t n w
  rw [h] at this
  exact this
theorem Least_at (s t n x y : Int) (w : World) (h : lstR s t n = (x, y)) : Calls Tryd.prog 24 #[.int .i64 s, .int .i64 t, .int .i64 n] w fun e w' => e = .returned (.tuple #[.int .i64 x, .int .i64 y]) ∧ w = w' := by
  have := Least_any s t n w
  rw [h] at this
  exact this
theorem rcv_zero {s t n : Int} {l : List Int} {X : Bool} (h : rcvR s t n l = (X, 0)) : isP s = true ∧ isC t n = true ∧ l.length ≤ 64 ∧ l.all isP = true ∧ sumR l = (l.sum, 0) ∧ X = decide (t * (n + l.sum) ≤ 1000 * s) := by
  unfold rcvR at h
  by_cases h1 : isP s = true ∧ isC t n = true
  · rw [if_pos h1] at h
    by_cases h2 : (sumR l).2 = 0
    · rw [if_pos h2] at h
      have h3 : l.length ≤ 64 ∧ l.all isP = true ∧ sumR l = (l.sum, 0) := by
        unfold sumR at h2 ⊢
        by_cases a : 64 < l.length
        · rw [if_pos a] at h2; cases h2
        · rw [if_neg a] at h2 ⊢
          by_cases b : l.all isP = true
          · rw [if_pos b]; exact ⟨by omega, b, rfl⟩
          · rw [if_neg b] at h2; cases h2
      rw [h3.2.2] at h
      exact ⟨h1.1, h1.2, h3.1, h3.2.1, h3.2.2, (Prod.mk.inj h).1.symm⟩
    · rw [if_neg h2] at h
      exact absurd (Prod.mk.inj h).2 h2
  · rw [if_neg h1] at h
    exact absurd (Prod.mk.inj h).2 (by decide)
theorem margins_plain {s t n S : Int} (hs : isP s = true) (hc : isC t n = true) (h0 : 0 ≤ S) (h1 : S ≤ 4398046511104) :
    marR s t n = (max (1000 * s / t - n) (-1), 0) ∧ decide (max (1000 * s / t - n) (-1) < -1) = false ∧ (S ≤ max (1000 * s / t - n) (-1) ↔ t * (n + S) ≤ 1000 * s) ∧
    ((lstR t n S = (0, 8) ∧ ¬ t * (n + S) ≤ 1000 * s) ∨ (lstR t n S = ((t * (n + S) + 999) / 1000, 0) ∧ ((t * (n + S) + 999) / 1000 ≤ s ↔ t * (n + S) ≤ 1000 * s))) := by
  have a1 := isP_t hs
  have a2 := isC_t hc
  refine ⟨by unfold marR; rw [if_pos ⟨hs, hc⟩], decide_eq_false (by omega), ?_, ?_⟩
  · have hd : (n + S) ≤ 1000 * s / t ↔ (n + S) * t ≤ 1000 * s := Int.le_ediv_iff_mul_le (by omega)
    rw [Int.mul_comm t (n + S)]
    omega
  · unfold lstR
    rw [if_pos ⟨hc, h0, h1⟩]
    by_cases g : 68719476736 < (t * (n + S) + 999) / 1000
    · rw [if_pos g]; left; exact ⟨rfl, by omega⟩
    · rw [if_neg g]; right; exact ⟨rfl, by omega⟩

set_option maxRecDepth 100000 in
set_option maxHeartbeats 4000000 in
theorem powerMargins_walk (s t n : Int) (l : List Int) (A : Option Addr) (c : Nat) (w : World) (hA : LiesI w w.heap.size A l) (hm : l.length ≤ maxLen) (hnA : A = none → l = []) :
    Calls Tryd.prog 8 #[.agg #[.int .i64 s, .int .i64 t, .int .i64 n, .slice A l.length c]] w fun e w' => e = .returned (.bool true) ∧ Below w.heap.size w w' := by
  have HnA := Lib.hid hnA
  have HMX := Lib.hid hm
  unfold maxLen at hm
  clear hnA
  obtain ⟨⟨X, E⟩, hX⟩ : ∃ R, rcvR s t n l = R := ⟨_, rfl⟩
  have HRX := Lib.hid hX
  clear hX
  go_enter Tryd.func8, Tryd.ntmps8
  go_wp2_with fail
  generalize hW1 : World.alloc _ _ = W1
  have bR : Blk W1 w.heap.size 35 [.int .i64 s, .int .i64 t, .int .i64 n, .slice A l.length c] := by rw [← hW1]; exact Blk.new2 _ [.int .i64 s, .int .i64 t, .int .i64 n, .slice A l.length c] rfl
  have hb1 : Below w.heap.size w W1 := by rw [← hW1]; exact (Below.refl _ _).alloc (Nat.le_refl _) _
  clear hW1
  obtain ⟨N, hN⟩ : ∃ N, N = w.heap.size := ⟨_, rfl⟩
  rw [← hN] at bR hb1 hA ⊢
  obtain ⟨M, hM⟩ : ∃ M, M = W1.heap.size := ⟨_, rfl⟩
  have hNM : N < M := by rw [hM]; exact bR.lt
  have LA : Hid (∀ W, Below M W1 W → LiesI W W.heap.size A l) := Lib.hid fun W h => ((hA.below hb1).below_le h (by omega)).more (by have := h.size; omega)
  have HRow : Hid (∀ W, Below M W1 W → Row W N [.int .i64 s, .int .i64 t, .int .i64 n, .slice A l.length c]) := Lib.hid fun W h => (bR.below h hNM).row
  have HW : Hid (∀ W, Below M W1 W → Below N w W ∧ M ≤ W.heap.size) := Lib.hid fun W h => ⟨hb1.trans (h.mono (by omega)), by have := h.size; omega⟩
  have HN := Lib.hid hN
  clear hN hA bR hb1
  refine (awake_any W1).mono ?_
  rintro e w2 ⟨rfl, hb2⟩
  rw [← hM] at hb2
  have HM := Lib.hid hM
  clear hM
  have r2 := HRow.out _ hb2
  unfold Row at r2
  by_cases hmost : l.length ≤ 64
  case neg =>
    have h1 : 64 < l.length := by omega
    go_wp2_with fail
    go_ret
    exact ⟨rfl, by rw [← HN.out]; exact (HW.out _ hb2).1⟩
  have h1 : decide (64 < l.length) = false := decide_eq_false (by omega)
  have hl : l.length ≤ 1000000 := by omega
  go_wp2_with fail
  have hB2d : Below M W1 w2.drew := hb2.drew
  have hN2 : N < w2.heap.size := by have := (HW.out _ hb2).2; omega
  have xx : ∀ (x : ExtW w2.heap.size w2.drew) (i : Nat), x.val.cell? ⟨N, i, none⟩ = _ := (HRow.out _ hB2d).ext hN2
  refine wp_region_rough (w2.heap.size) 15 [] #[false, false, false, false, false, false, false, false, false, false, false, false, false, false, false] (by kernel_rfl) rfl rfl ?_
  refine anyR_take0 0 _ (nth0) rfl (by kernel_rfl) (by kernel_rfl) (by kernel_rfl) (l' := #[true, false, false, false, false, false, false, false, false, false, false, false, false, false, false]) rfl rfl ?_; intro K hK; go_big_quiet_op; go_big_quiet_on
  refine anyR_take 1 _ (nthS (nth0)) rfl (by kernel_rfl) (by kernel_rfl) (by kernel_rfl) (by kernel_rfl) (l' := #[true, true, false, false, false, false, false, false, false, false, false, false, false, false, false]) rfl rfl ?_; intro K hK; go_big_quiet_op; go_big_quiet_on
  refine anyR_take0 2 _ (nthS (nthS (nth0))) rfl (by kernel_rfl) (by kernel_rfl) (by kernel_rfl) (l' := #[true, true, true, false, false, false, false, false, false, false, false, false, false, false, false]) rfl rfl ?_; intro K hK; go_big_quiet_op; go_big_quiet_on
  refine anyR_take 3 _ (nthS (nthS (nthS (nth0)))) rfl (by kernel_rfl) (by kernel_rfl) (by kernel_rfl) (by kernel_rfl) (l' := #[true, true, true, true, false, false, false, false, false, false, false, false, false, false, false]) rfl rfl ?_; intro K hK; go_big_quiet_op; go_big_quiet_on
  refine anyR_take0 4 _ (nthS (nthS (nthS (nthS (nth0))))) rfl (by kernel_rfl) (by kernel_rfl) (by kernel_rfl) (l' := #[true, true, true, true, true, false, false, false, false, false, false, false, false, false, false]) rfl rfl ?_; intro K hK; go_big_quiet_op; go_big_quiet_on
  refine anyR_take 5 _ (nthS (nthS (nthS (nthS (nthS (nth0)))))) rfl (by kernel_rfl) (by kernel_rfl) (by kernel_rfl) (by kernel_rfl) (l' := #[true, true, true, true, true, true, false, false, false, false, false, false, false, false, false]) rfl rfl ?_; intro K hK; go_big_quiet_op; go_big_quiet_on
  refine anyR_take0 6 _ (nthS (nthS (nthS (nthS (nthS (nthS (nth0))))))) rfl (by kernel_rfl) (by kernel_rfl) (by kernel_rfl) (l' := #[true, true, true, true, true, true, true, false, false, false, false, false, false, false, false]) rfl rfl ?_; intro K hK; go_big_quiet_op; go_big_quiet_on
  refine anyR_take 7 _ (nthS (nthS (nthS (nthS (nthS (nthS (nthS (nth0)))))))) rfl (by kernel_rfl) (by kernel_rfl) (by kernel_rfl) (by kernel_rfl) (l' := #[true, true, true, true, true, true, true, true, false, false, false, false, false, false, false]) rfl rfl ?_; intro K hK; go_big_quiet_op; go_big_quiet_on
  refine anyR_one 8 _ (nthS (nthS (nthS (nthS (nthS (nthS (nthS (nthS (nth0))))))))) (by kernel_rfl) (l' := #[true, true, true, true, true, true, true, true, true, false, false, false, false, false, false]) rfl ?_
  clear xx
  go_wp2_with fail
  refine (cloneI_any l A c _ (LA.out _ hB2d) hl HnA.out).mono ?_
  rintro e w3 ⟨hb3, v3, rfl, ho3⟩
  obtain ⟨A3, c3, rfl, l3⟩ := own_liesI ho3
  have hB3 : Below M W1 w3 := hB2d.trans (hb3.mono (HW.out _ hB2d).2)
  clear ho3
  go_wp2_with fail
  refine OneR_mk (hb3) ?_
  refine anyR_one 9 _ (nthS (nthS (nthS (nthS (nthS (nthS (nthS (nthS (nthS (nth0)))))))))) (by kernel_rfl) (l' := #[true, true, true, true, true, true, true, true, true, true, false, false, false, false, false]) rfl ?_
  go_wp2_with fail
  refine (Received_at s t n l A3 c3 _ l3 HMX.out X E HRX.out).mono ?_
  rintro e w3x ⟨rfl, rfl⟩
  go_wp2_with fail
  refine OneR_mk (Below.refl _ _) ?_
  refine anyR_take0 10 _ (nthS (nthS (nthS (nthS (nthS (nthS (nthS (nthS (nthS (nthS (nth0))))))))))) rfl (by kernel_rfl) (by kernel_rfl) (by kernel_rfl) (l' := #[true, true, true, true, true, true, true, true, true, true, true, false, false, false, false]) rfl rfl ?_; intro K hK; go_big_quiet_op; go_big_quiet_on
  refine anyR_take0 11 _ (nthS (nthS (nthS (nthS (nthS (nthS (nthS (nthS (nthS (nthS (nthS (nth0)))))))))))) rfl (by kernel_rfl) (by kernel_rfl) (by kernel_rfl) (l' := #[true, true, true, true, true, true, true, true, true, true, true, true, false, false, false]) rfl rfl ?_; intro K hK; go_big_quiet_op; go_big_quiet_on
  refine anyR_take0 12 _ (nthS (nthS (nthS (nthS (nthS (nthS (nthS (nthS (nthS (nthS (nthS (nthS (nth0))))))))))))) rfl (by kernel_rfl) (by kernel_rfl) (by kernel_rfl) (l' := #[true, true, true, true, true, true, true, true, true, true, true, true, true, false, false]) rfl rfl ?_; intro K hK; go_big_quiet_op; go_big_quiet_on
  refine anyR_take0 13 _ (nthS (nthS (nthS (nthS (nthS (nthS (nthS (nthS (nthS (nthS (nthS (nthS (nthS (nth0)))))))))))))) rfl (by kernel_rfl) (by kernel_rfl) (by kernel_rfl) (l' := #[true, true, true, true, true, true, true, true, true, true, true, true, true, true, false]) rfl rfl ?_; intro K hK; go_big_quiet_op; go_big_quiet_on
  refine anyR_take0 14 _ (nthS (nthS (nthS (nthS (nthS (nthS (nthS (nthS (nthS (nthS (nthS (nthS (nthS (nthS (nth0))))))))))))))) rfl (by kernel_rfl) (by kernel_rfl) (by kernel_rfl) (l' := #[true, true, true, true, true, true, true, true, true, true, true, true, true, true, true]) rfl rfl ?_; intro K hK; go_big_quiet_op; go_big_quiet_on
  refine anyR_end (by kernel_rfl) ?_
  clear l3 hb3 r2
  by_cases hE : E = 0
  case neg =>
    have e1 : (E != 0) = true := by simpa using hE
    go_wp2_with fail
    go_ret
    exact ⟨rfl, by rw [← HN.out]; exact (HW.out _ hB3).1⟩
  subst hE
  obtain ⟨q1, q2, q3, q4, q5, q6⟩ := rcv_zero HRX.out
  obtain ⟨b0, b1⟩ := sum_bound l q4
  have b2 : l.sum ≤ 4398046511104 := by omega
  obtain ⟨mp1, mp2, mp3, mp4⟩ := margins_plain q1 q2 b0 b2
  have HSum := Lib.hid q5
  generalize l.sum = S at *
  generalize max (1000 * s / t - n) (-1) = m at *
  have HMar := Lib.hid mp1
  clear mp1 q1 q2 q3 q4 q5 b1
  have K : ∃ V H : Int, Hid (lstR t n S = (V, H)) ∧ ((H = 8 ∧ X = false) ∨ (H = 0 ∧ decide (V ≤ s) = X)) ∧ decide (S ≤ m) = X := by
    have e2 : decide (S ≤ m) = X := by rw [q6]; exact decide_eq_decide.2 mp3
    rcases mp4 with ⟨a, b⟩ | ⟨a, b⟩
    · exact ⟨_, _, Lib.hid a, Or.inl ⟨rfl, by rw [q6]; exact decide_eq_false b⟩, e2⟩
    · exact ⟨_, _, Lib.hid a, Or.inr ⟨rfl, by rw [q6]; exact decide_eq_decide.2 b⟩, e2⟩
  obtain ⟨V, H, HLst, k1, k2⟩ := K
  clear mp3 mp4 q6 b0 b2
  have r3 := HRow.out _ hB3
  unfold Row at r3
  go_wp2_with fail
  refine (cloneI_any l A c w3 (LA.out _ hB3) hl HnA.out).mono ?_
  rintro e w4 ⟨hb4, v4, rfl, ho4⟩
  obtain ⟨A4, c4, rfl, l4⟩ := own_liesI ho4
  have hB4 : Below M W1 w4 := hB3.trans (hb4.mono (HW.out _ hB3).2)
  clear ho4
  have r4 := HRow.out _ hB4
  unfold Row at r4
  clear r3
  go_wp2_with fail
  refine (Sum_at l A4 c4 w4 l4 HMX.out S 0 HSum.out).mono ?_
  rintro e w4x ⟨rfl, rfl⟩
  clear l4 hb4
  go_wp2_with fail
  refine (Margin_at _ _ _ _ _ _ HMar.out).mono ?_
  rintro e w4x ⟨rfl, rfl⟩
  go_wp2_with fail
  refine (Least_at _ _ _ _ _ _ HLst.out).mono ?_
  rintro e w4x ⟨rfl, rfl⟩
  cases X
  · rcases k1 with ⟨rfl, _⟩ | ⟨rfl, k1⟩
    · go_wp2_with fail
      go_ret
      exact ⟨rfl, by rw [← HN.out]; exact (HW.out _ hB4).1⟩
    · go_wp2_with fail
      go_ret
      exact ⟨rfl, by rw [← HN.out]; exact (HW.out _ hB4).1⟩
  · rcases k1 with ⟨_, h⟩ | ⟨rfl, k1⟩
    · cases h
    · go_wp2_with fail
      go_ret
      exact ⟨rfl, by rw [← HN.out]; exact (HW.out _ hB4).1⟩
end Go.Proofs.YtddekdlbkedaiaaDoor
