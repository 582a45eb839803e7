/- The walk of PowerMonotone. -/
import Derived.Test.YtddekdlbkedaiaaDoorPowL6
import Derived.Test.YtddekdlbkedaiaaDoorDelI
import Derived.Test.YtddekdlbkedaiaaDoorMixR
import Derived.Test.YtddekdlbkedaiaaDoorOwn
namespace Go.Proofs.YtddekdlbkedaiaaDoor
open Go.RowKit

theorem rcv_of {s t n : Int} {l : List Int} (h1 : isP s = true) (h2 : isC t n = true) (h3 : l.length ≤ 64) (h4 : l.all isP = true) : rcvR s t n l = (decide (t * (n + l.sum) ≤ 1000 * s), 0) := by
  have hs : sumR l = (l.sum, 0) := by unfold sumR; rw [if_neg (by omega), if_pos h4]
  unfold rcvR
  rw [if_pos ⟨h1, h2⟩, hs, if_pos rfl]
theorem isP_of {x : Int} (h0 : 0 ≤ x) (h1 : x ≤ 68719476736) : isP x = true := by simp [isP]; omega
theorem sum_erase : ∀ (l : List Int) (k : Nat), l.all isP = true → (l.eraseIdx k).sum ≤ l.sum ∧ (l.eraseIdx k).all isP = true
  | [], k, _ => by simp
  | x :: l, 0, h => by
    simp only [List.all_cons, Bool.and_eq_true] at h
    have := isP_t h.1
    simp only [List.eraseIdx_cons_zero, List.sum_cons]
    exact ⟨by omega, h.2⟩
  | x :: l, k + 1, h => by
    simp only [List.all_cons, Bool.and_eq_true] at h
    have := sum_erase l k h.2
    simp only [List.eraseIdx_cons_succ, List.sum_cons, List.all_cons, Bool.and_eq_true]
    exact ⟨by omega, h.1, this.2⟩
theorem mono_more {s t n m : Int} {l : List Int} {X : Bool} (h : rcvR s t n l = (X, 0)) (h0 : 0 ≤ m) (h1 : m ≤ 68719476736 - s) : ∃ Y, rcvR (s + m) t n l = (Y, 0) ∧ (X && !Y) = false := by
  obtain ⟨a, b, c, d, _, e⟩ := rcv_zero h
  have := isP_t a
  refine ⟨_, rcv_of (isP_of (by omega) (by omega)) b c d, ?_⟩
  rw [e, Bool.and_eq_false_iff]
  by_cases g : t * (n + l.sum) ≤ 1000 * s
  · right; simp; omega
  · left; simpa using g
theorem mono_less {s t n : Int} {l : List Int} {X : Bool} (k : Nat) (h : rcvR s t n l = (X, 0)) : ∃ Y, rcvR s t n (l.eraseIdx k) = (Y, 0) ∧ (!X || Y) = true := by
  obtain ⟨a, b, c, d, _, e⟩ := rcv_zero h
  obtain ⟨h1, h2⟩ := sum_erase l k d
  have ht := isC_t b
  have hl : (l.eraseIdx k).length ≤ l.length := List.length_eraseIdx_le _ _
  refine ⟨_, rcv_of a b (by omega) h2, ?_⟩
  rw [e]
  by_cases g : t * (n + l.sum) ≤ 1000 * s
  · have hm : t * (n + (l.eraseIdx k).sum) ≤ t * (n + l.sum) := Int.mul_le_mul_of_nonneg_left (by omega) (by omega)
    simp; right; omega
  · simp [g]

set_option maxRecDepth 100000 in
set_option maxHeartbeats 4000000 in
theorem powerMonotone_walk (s t n : Int) (l : List Int) (A : Option Addr) (c : Nat) (m u : Int) (hu : 0 ≤ u ∧ u < 256) (w : World) (hA : LiesI w w.heap.size A l) (hm : l.length ≤ maxLen) (hnA : A = none → l = []) :
    Calls Tryd.prog 9 #[.agg #[.int .i64 s, .int .i64 t, .int .i64 n, .slice A l.length c], .int .i64 m, .int .u8 u] w fun e w' => e = .returned (.bool true) ∧ Below w.heap.size w w' := by
  have HnA := Lib.hid hnA
  have HMX := Lib.hid hm
  unfold maxLen at hm
  clear hnA
  obtain ⟨⟨X, E⟩, hX⟩ : ∃ R, rcvR s t n l = R := ⟨_, rfl⟩
  have HRX := Lib.hid hX
  obtain ⟨u0, u1⟩ := hu
  clear hX
  go_enter Tryd.func9, Tryd.ntmps9
  go_wp2_with fail
  generalize hW1 : World.alloc _ _ = W1
  have bR : Blk W1 w.heap.size 35 [.int .i64 s, .int .i64 t, .int .i64 n, .slice A l.length c] := by rw [← hW1]; exact Blk.new2 _ [.int .i64 s, .int .i64 t, .int .i64 n, .slice A l.length c] rfl
  have hb1 : Below w.heap.size w W1 := by rw [← hW1]; exact (Below.refl _ _).alloc (Nat.le_refl _) _
  clear hW1
  obtain ⟨N, hN⟩ : ∃ N, N = w.heap.size := ⟨_, rfl⟩
  rw [← hN] at bR hb1 hA ⊢
  obtain ⟨M, hM⟩ : ∃ M, M = W1.heap.size := ⟨_, rfl⟩
  have hNM : N < M := by rw [hM]; exact bR.lt
  have LA : Hid (∀ W, Below M W1 W → LiesI W W.heap.size A l) := Lib.hid fun W h => ((hA.below hb1).below_le h (by omega)).more (by have := h.size; omega)
  have HRow : Hid (∀ W, Below M W1 W → Row W N [.int .i64 s, .int .i64 t, .int .i64 n, .slice A l.length c]) := Lib.hid fun W h => (bR.below h hNM).row
  have HW : Hid (∀ W, Below M W1 W → Below N w W ∧ M ≤ W.heap.size) := Lib.hid fun W h => ⟨hb1.trans (h.mono (by omega)), by have := h.size; omega⟩
  have HN := Lib.hid hN
  clear hN hA bR hb1
  refine (awake_any W1).mono ?_
  rintro e w2 ⟨rfl, hb2⟩
  rw [← hM] at hb2
  have HM := Lib.hid hM
  clear hM
  have r2 := HRow.out _ hb2
  unfold Row at r2
  by_cases hmost : l.length ≤ 64
  case neg =>
    have h1 : 64 < l.length := by omega
    go_wp2_with fail
    go_ret
    exact ⟨rfl, by rw [← HN.out]; exact (HW.out _ hb2).1⟩
  have h1 : decide (64 < l.length) = false := decide_eq_false (by omega)
  have hl : l.length ≤ 1000000 := by omega
  go_wp2_with fail
  have hB2d : Below M W1 w2.drew := hb2.drew
  have hN2 : N < w2.heap.size := by have := (HW.out _ hb2).2; omega
  have xx : ∀ (x : ExtW w2.heap.size w2.drew) (i : Nat), x.val.cell? ⟨N, i, none⟩ = _ := (HRow.out _ hB2d).ext hN2
  refine wp_region_rough (w2.heap.size) 15 [] #[false, false, false, false, false, false, false, false, false, false, false, false, false, false, false] (by kernel_rfl) rfl rfl ?_
  refine anyR_take0 0 _ (nth0) rfl (by kernel_rfl) (by kernel_rfl) (by kernel_rfl) (l' := #[true, false, false, false, false, false, false, false, false, false, false, false, false, false, false]) rfl rfl ?_; intro K hK; go_big_quiet_op; go_big_quiet_on
  refine anyR_take 1 _ (nthS (nth0)) rfl (by kernel_rfl) (by kernel_rfl) (by kernel_rfl) (by kernel_rfl) (l' := #[true, true, false, false, false, false, false, false, false, false, false, false, false, false, false]) rfl rfl ?_; intro K hK; go_big_quiet_op; go_big_quiet_on
  refine anyR_take0 2 _ (nthS (nthS (nth0))) rfl (by kernel_rfl) (by kernel_rfl) (by kernel_rfl) (l' := #[true, true, true, false, false, false, false, false, false, false, false, false, false, false, false]) rfl rfl ?_; intro K hK; go_big_quiet_op; go_big_quiet_on
  refine anyR_take 3 _ (nthS (nthS (nthS (nth0)))) rfl (by kernel_rfl) (by kernel_rfl) (by kernel_rfl) (by kernel_rfl) (l' := #[true, true, true, true, false, false, false, false, false, false, false, false, false, false, false]) rfl rfl ?_; intro K hK; go_big_quiet_op; go_big_quiet_on
  refine anyR_take0 4 _ (nthS (nthS (nthS (nthS (nth0))))) rfl (by kernel_rfl) (by kernel_rfl) (by kernel_rfl) (l' := #[true, true, true, true, true, false, false, false, false, false, false, false, false, false, false]) rfl rfl ?_; intro K hK; go_big_quiet_op; go_big_quiet_on
  refine anyR_take 5 _ (nthS (nthS (nthS (nthS (nthS (nth0)))))) rfl (by kernel_rfl) (by kernel_rfl) (by kernel_rfl) (by kernel_rfl) (l' := #[true, true, true, true, true, true, false, false, false, false, false, false, false, false, false]) rfl rfl ?_; intro K hK; go_big_quiet_op; go_big_quiet_on
  refine anyR_take0 6 _ (nthS (nthS (nthS (nthS (nthS (nthS (nth0))))))) rfl (by kernel_rfl) (by kernel_rfl) (by kernel_rfl) (l' := #[true, true, true, true, true, true, true, false, false, false, false, false, false, false, false]) rfl rfl ?_; intro K hK; go_big_quiet_op; go_big_quiet_on
  refine anyR_take 7 _ (nthS (nthS (nthS (nthS (nthS (nthS (nthS (nth0)))))))) rfl (by kernel_rfl) (by kernel_rfl) (by kernel_rfl) (by kernel_rfl) (l' := #[true, true, true, true, true, true, true, true, false, false, false, false, false, false, false]) rfl rfl ?_; intro K hK; go_big_quiet_op; go_big_quiet_on
  refine anyR_one 8 _ (nthS (nthS (nthS (nthS (nthS (nthS (nthS (nthS (nth0))))))))) (by kernel_rfl) (l' := #[true, true, true, true, true, true, true, true, true, false, false, false, false, false, false]) rfl ?_
  clear xx
  go_wp2_with fail
  refine (cloneI_any l A c _ (LA.out _ hB2d) hl HnA.out).mono ?_
  rintro e w3 ⟨hb3, v3, rfl, ho3⟩
  obtain ⟨A3, c3, rfl, l3⟩ := own_liesI ho3
  have hB3 : Below M W1 w3 := hB2d.trans (hb3.mono (HW.out _ hB2d).2)
  clear ho3
  go_wp2_with fail
  refine OneR_mk (hb3) ?_
  refine anyR_one 9 _ (nthS (nthS (nthS (nthS (nthS (nthS (nthS (nthS (nthS (nth0)))))))))) (by kernel_rfl) (l' := #[true, true, true, true, true, true, true, true, true, true, false, false, false, false, false]) rfl ?_
  go_wp2_with fail
  refine (Received_at s t n l A3 c3 _ l3 HMX.out X E HRX.out).mono ?_
  rintro e w3x ⟨rfl, rfl⟩
  go_wp2_with fail
  refine OneR_mk (Below.refl _ _) ?_
  refine anyR_take0 10 _ (nthS (nthS (nthS (nthS (nthS (nthS (nthS (nthS (nthS (nthS (nth0))))))))))) rfl (by kernel_rfl) (by kernel_rfl) (by kernel_rfl) (l' := #[true, true, true, true, true, true, true, true, true, true, true, false, false, false, false]) rfl rfl ?_; intro K hK; go_big_quiet_op; go_big_quiet_on
  refine anyR_take0 11 _ (nthS (nthS (nthS (nthS (nthS (nthS (nthS (nthS (nthS (nthS (nthS (nth0)))))))))))) rfl (by kernel_rfl) (by kernel_rfl) (by kernel_rfl) (l' := #[true, true, true, true, true, true, true, true, true, true, true, true, false, false, false]) rfl rfl ?_; intro K hK; go_big_quiet_op; go_big_quiet_on
  refine anyR_take0 12 _ (nthS (nthS (nthS (nthS (nthS (nthS (nthS (nthS (nthS (nthS (nthS (nthS (nth0))))))))))))) rfl (by kernel_rfl) (by kernel_rfl) (by kernel_rfl) (l' := #[true, true, true, true, true, true, true, true, true, true, true, true, true, false, false]) rfl rfl ?_; intro K hK; go_big_quiet_op; go_big_quiet_on
  refine anyR_take0 13 _ (nthS (nthS (nthS (nthS (nthS (nthS (nthS (nthS (nthS (nthS (nthS (nthS (nthS (nth0)))))))))))))) rfl (by kernel_rfl) (by kernel_rfl) (by kernel_rfl) (l' := #[true, true, true, true, true, true, true, true, true, true, true, true, true, true, false]) rfl rfl ?_; intro K hK; go_big_quiet_op; go_big_quiet_on
  refine anyR_take0 14 _ (nthS (nthS (nthS (nthS (nthS (nthS (nthS (nthS (nthS (nthS (nthS (nthS (nthS (nthS (nth0))))))))))))))) rfl (by kernel_rfl) (by kernel_rfl) (by kernel_rfl) (l' := #[true, true, true, true, true, true, true, true, true, true, true, true, true, true, true]) rfl rfl ?_; intro K hK; go_big_quiet_op; go_big_quiet_on
  refine anyR_end (by kernel_rfl) ?_
  clear l3 hb3 r2
  by_cases hE : E = 0
  case neg =>
    have e1 : (E != 0) = true := by simpa using hE
    have hX0 : X = false := by
      have h := HRX.out
      unfold rcvR at h
      split at h
      · split at h
        · exact absurd (Prod.mk.inj h).2.symm hE
        · exact (Prod.mk.inj h).1.symm
      · exact (Prod.mk.inj h).1.symm
    subst hX0
    go_wp2_with fail
    go_ret
    exact ⟨rfl, by rw [← HN.out]; exact (HW.out _ hB3).1⟩
  subst hE
  have r3 := HRow.out _ hB3
  unfold Row at r3
  have hsb : 0 ≤ s ∧ s ≤ 68719476736 := isP_t (rcv_zero HRX.out).1
  obtain ⟨s0, s1⟩ := hsb
  have HK : Hid (l ≠ [] → ∃ K : Nat, u.tmod (l.length : Int) = (K : Int) ∧ K < l.length) := Lib.hid (fun h => by
    have h1 : 0 < l.length := List.length_pos_iff.2 h
    have h2 := Int.tmod_nonneg (l.length : Int) u0
    have h3 := Int.tmod_lt_of_pos u (show (0 : Int) < (l.length : Int) by omega)
    exact ⟨(u.tmod (l.length : Int)).toNat, by omega, by omega⟩)
  by_cases hm0 : m < 0
  · go_wp2_with fail
    have hB3d : Below M W1 w3.drew := hB3.drew
    have hN3 : N < w3.heap.size := by have := (HW.out _ hB3).2; omega
    have xx : ∀ (x : ExtW w3.heap.size w3.drew) (i : Nat), x.val.cell? ⟨N, i, none⟩ = _ := (HRow.out _ hB3d).ext hN3
    refine wp_region_rough (w3.heap.size) 17 [] #[false, false, false, false, false, false, false, false, false, false, false, false, false, false, false, false, false] (by kernel_rfl) rfl rfl ?_
    refine anyR_take0 0 _ (nth0) rfl (by kernel_rfl) (by kernel_rfl) (by kernel_rfl) (l' := #[true, false, false, false, false, false, false, false, false, false, false, false, false, false, false, false, false]) rfl rfl ?_; intro K hK; go_big_quiet_op; go_big_quiet_on
    refine anyR_take 1 _ (nthS (nth0)) rfl (by kernel_rfl) (by kernel_rfl) (by kernel_rfl) (by kernel_rfl) (l' := #[true, true, false, false, false, false, false, false, false, false, false, false, false, false, false, false, false]) rfl rfl ?_; intro K hK; go_big_quiet_op; go_big_quiet_on
    refine anyR_take0 2 _ (nthS (nthS (nth0))) rfl (by kernel_rfl) (by kernel_rfl) (by kernel_rfl) (l' := #[true, true, true, false, false, false, false, false, false, false, false, false, false, false, false, false, false]) rfl rfl ?_; intro K hK; go_big_quiet_op; go_big_quiet_on
    refine anyR_take0 3 _ (nthS (nthS (nthS (nth0)))) rfl (by kernel_rfl) (by kernel_rfl) (by kernel_rfl) (l' := #[true, true, true, true, false, false, false, false, false, false, false, false, false, false, false, false, false]) rfl rfl ?_; intro K hK; go_big_quiet_op; go_big_quiet_on
    refine anyR_take0 4 _ (nthS (nthS (nthS (nthS (nth0))))) rfl (by kernel_rfl) (by kernel_rfl) (by kernel_rfl) (l' := #[true, true, true, true, true, false, false, false, false, false, false, false, false, false, false, false, false]) rfl rfl ?_; intro K hK; go_big_quiet_op; go_big_quiet_on
    refine anyR_take 5 _ (nthS (nthS (nthS (nthS (nthS (nth0)))))) rfl (by kernel_rfl) (by kernel_rfl) (by kernel_rfl) (by kernel_rfl) (l' := #[true, true, true, true, true, true, false, false, false, false, false, false, false, false, false, false, false]) rfl rfl ?_; intro K hK; go_big_quiet_op; go_big_quiet_on
    refine anyR_take0 6 _ (nthS (nthS (nthS (nthS (nthS (nthS (nth0))))))) rfl (by kernel_rfl) (by kernel_rfl) (by kernel_rfl) (l' := #[true, true, true, true, true, true, true, false, false, false, false, false, false, false, false, false, false]) rfl rfl ?_; intro K hK; go_big_quiet_op; go_big_quiet_on
    refine anyR_take 7 _ (nthS (nthS (nthS (nthS (nthS (nthS (nthS (nth0)))))))) rfl (by kernel_rfl) (by kernel_rfl) (by kernel_rfl) (by kernel_rfl) (l' := #[true, true, true, true, true, true, true, true, false, false, false, false, false, false, false, false, false]) rfl rfl ?_; intro K hK; go_big_quiet_op; go_big_quiet_on
    refine anyR_take0 8 _ (nthS (nthS (nthS (nthS (nthS (nthS (nthS (nthS (nth0))))))))) rfl (by kernel_rfl) (by kernel_rfl) (by kernel_rfl) (l' := #[true, true, true, true, true, true, true, true, true, false, false, false, false, false, false, false, false]) rfl rfl ?_; intro K hK; go_big_quiet_op; go_big_quiet_on
    refine anyR_take 9 _ (nthS (nthS (nthS (nthS (nthS (nthS (nthS (nthS (nthS (nth0)))))))))) rfl (by kernel_rfl) (by kernel_rfl) (by kernel_rfl) (by kernel_rfl) (l' := #[true, true, true, true, true, true, true, true, true, true, false, false, false, false, false, false, false]) rfl rfl ?_; intro K hK; go_big_quiet_op; go_big_quiet_on
    refine anyR_one 10 _ (nthS (nthS (nthS (nthS (nthS (nthS (nthS (nthS (nthS (nthS (nth0))))))))))) (by kernel_rfl) (l' := #[true, true, true, true, true, true, true, true, true, true, true, false, false, false, false, false, false]) rfl ?_
    clear xx
    go_wp2_with fail
    refine (cloneI_any l A c _ (LA.out _ hB3d) hl HnA.out).mono ?_
    rintro e w4 ⟨hb4, v4, rfl, ho4⟩
    obtain ⟨A4, c4, rfl, l4⟩ := own_liesI ho4
    have hB4 : Below M W1 w4 := hB3d.trans (hb4.mono (HW.out _ hB3d).2)
    clear ho4
    go_wp2_with fail
    refine OneR_mk (hb4) ?_
    refine anyR_one 11 _ (nthS (nthS (nthS (nthS (nthS (nthS (nthS (nthS (nthS (nthS (nthS (nth0)))))))))))) (by kernel_rfl) (l' := #[true, true, true, true, true, true, true, true, true, true, true, true, false, false, false, false, false]) rfl ?_
    go_wp2_with fail
    refine (Received_at s t n l A4 c4 _ l4 HMX.out X 0 HRX.out).mono ?_
    rintro e w4x ⟨rfl, rfl⟩
    go_wp2_with fail
    refine OneR_mk (Below.refl _ _) ?_
    refine anyR_take0 12 _ (nthS (nthS (nthS (nthS (nthS (nthS (nthS (nthS (nthS (nthS (nthS (nthS (nth0))))))))))))) rfl (by kernel_rfl) (by kernel_rfl) (by kernel_rfl) (l' := #[true, true, true, true, true, true, true, true, true, true, true, true, true, false, false, false, false]) rfl rfl ?_; intro K hK; go_big_quiet_op; go_big_quiet_on
    refine anyR_take0 13 _ (nthS (nthS (nthS (nthS (nthS (nthS (nthS (nthS (nthS (nthS (nthS (nthS (nthS (nth0)))))))))))))) rfl (by kernel_rfl) (by kernel_rfl) (by kernel_rfl) (l' := #[true, true, true, true, true, true, true, true, true, true, true, true, true, true, false, false, false]) rfl rfl ?_; intro K hK; go_big_quiet_op; go_big_quiet_on
    refine anyR_take0 14 _ (nthS (nthS (nthS (nthS (nthS (nthS (nthS (nthS (nthS (nthS (nthS (nthS (nthS (nthS (nth0))))))))))))))) rfl (by kernel_rfl) (by kernel_rfl) (by kernel_rfl) (l' := #[true, true, true, true, true, true, true, true, true, true, true, true, true, true, true, false, false]) rfl rfl ?_; intro K hK; go_big_quiet_op; go_big_quiet_on
    refine anyR_take0 15 _ (nthS (nthS (nthS (nthS (nthS (nthS (nthS (nthS (nthS (nthS (nthS (nthS (nthS (nthS (nthS (nth0)))))))))))))))) rfl (by kernel_rfl) (by kernel_rfl) (by kernel_rfl) (l' := #[true, true, true, true, true, true, true, true, true, true, true, true, true, true, true, true, false]) rfl rfl ?_; intro K hK; go_big_quiet_op; go_big_quiet_on
    refine anyR_take0 16 _ (nthS (nthS (nthS (nthS (nthS (nthS (nthS (nthS (nthS (nthS (nthS (nthS (nthS (nthS (nthS (nthS (nth0))))))))))))))))) rfl (by kernel_rfl) (by kernel_rfl) (by kernel_rfl) (l' := #[true, true, true, true, true, true, true, true, true, true, true, true, true, true, true, true, true]) rfl rfl ?_; intro K hK; go_big_quiet_op; go_big_quiet_on
    refine anyR_end (by kernel_rfl) ?_
    clear r3 l4 hb4
    have r4 := HRow.out _ hB4
    unfold Row at r4
    have hxy := (show (X && !X) = false by cases X <;> rfl)
    by_cases hl0 : l = []
    · subst hl0
      simp only [List.length_nil] at *
      cases X <;> first | (cases hxy; done) | (go_wp2_with fail; go_ret; exact ⟨rfl, by rw [← HN.out]; exact (HW.out _ hB4).1⟩)
    obtain ⟨K, hK1, hK2⟩ := HK.out hl0
    obtain ⟨Z, hZ, hXZ⟩ := mono_less K HRX.out
    have HRZ := Lib.hid hZ
    clear hZ hl0
    have hwK : IntKind.i64.wrap ((K : Int) + 1) = (K : Int) + 1 := by rw [IntKind.wrap_i64]; omega
    have hne0 : ((l.length : Int) == 0) = false := by rw [beq_eq_false_iff_ne]; omega
    have hne1 : (l.length : Int) ≠ 0 := by omega
    have hne2 : ¬ l.length = 0 := by omega
    cases X
    all_goals
      go_wp2_with fail
      have hB4d : Below M W1 w4.drew := hB4.drew
      have hN4 : N < w4.heap.size := by have := (HW.out _ hB4).2; omega
      have xx : ∀ (x : ExtW w4.heap.size w4.drew) (i : Nat), x.val.cell? ⟨N, i, none⟩ = _ := (HRow.out _ hB4d).ext hN4
      refine wp_region_rough (w4.heap.size) 19 [] #[false, false, false, false, false, false, false, false, false, false, false, false, false, false, false, false, false, false, false] (by kernel_rfl) rfl rfl ?_
      refine anyR_take0 0 _ (nth0) rfl (by kernel_rfl) (by kernel_rfl) (by kernel_rfl) (l' := #[true, false, false, false, false, false, false, false, false, false, false, false, false, false, false, false, false, false, false]) rfl rfl ?_; intro K hK; go_big_quiet_op; go_big_quiet_on
      refine anyR_take 1 _ (nthS (nth0)) rfl (by kernel_rfl) (by kernel_rfl) (by kernel_rfl) (by kernel_rfl) (l' := #[true, true, false, false, false, false, false, false, false, false, false, false, false, false, false, false, false, false, false]) rfl rfl ?_; intro K hK; go_big_quiet_op; go_big_quiet_on
      refine anyR_take0 2 _ (nthS (nthS (nth0))) rfl (by kernel_rfl) (by kernel_rfl) (by kernel_rfl) (l' := #[true, true, true, false, false, false, false, false, false, false, false, false, false, false, false, false, false, false, false]) rfl rfl ?_; intro K hK; go_big_quiet_op; go_big_quiet_on
      refine anyR_take 3 _ (nthS (nthS (nthS (nth0)))) rfl (by kernel_rfl) (by kernel_rfl) (by kernel_rfl) (by kernel_rfl) (l' := #[true, true, true, true, false, false, false, false, false, false, false, false, false, false, false, false, false, false, false]) rfl rfl ?_; intro K hK; go_big_quiet_op; go_big_quiet_on
      refine anyR_take0 4 _ (nthS (nthS (nthS (nthS (nth0))))) rfl (by kernel_rfl) (by kernel_rfl) (by kernel_rfl) (l' := #[true, true, true, true, true, false, false, false, false, false, false, false, false, false, false, false, false, false, false]) rfl rfl ?_; intro K hK; go_big_quiet_op; go_big_quiet_on
      refine anyR_take 5 _ (nthS (nthS (nthS (nthS (nthS (nth0)))))) rfl (by kernel_rfl) (by kernel_rfl) (by kernel_rfl) (by kernel_rfl) (l' := #[true, true, true, true, true, true, false, false, false, false, false, false, false, false, false, false, false, false, false]) rfl rfl ?_; intro K hK; go_big_quiet_op; go_big_quiet_on
      refine anyR_take0 6 _ (nthS (nthS (nthS (nthS (nthS (nthS (nth0))))))) rfl (by kernel_rfl) (by kernel_rfl) (by kernel_rfl) (l' := #[true, true, true, true, true, true, true, false, false, false, false, false, false, false, false, false, false, false, false]) rfl rfl ?_; intro K hK; go_big_quiet_op; go_big_quiet_on
      refine anyR_take 7 _ (nthS (nthS (nthS (nthS (nthS (nthS (nthS (nth0)))))))) rfl (by kernel_rfl) (by kernel_rfl) (by kernel_rfl) (by kernel_rfl) (l' := #[true, true, true, true, true, true, true, true, false, false, false, false, false, false, false, false, false, false, false]) rfl rfl ?_; intro K hK; go_big_quiet_op; go_big_quiet_on
      refine anyR_take0 9 _ (nthS (nthS (nthS (nthS (nthS (nthS (nthS (nthS (nthS (nth0)))))))))) rfl (by kernel_rfl) (by kernel_rfl) (by kernel_rfl) (l' := #[true, true, true, true, true, true, true, true, false, true, false, false, false, false, false, false, false, false, false]) rfl rfl ?_; intro K hK; go_big_quiet_op; go_big_quiet_on
      refine anyR_take0 10 _ (nthS (nthS (nthS (nthS (nthS (nthS (nthS (nthS (nthS (nthS (nth0))))))))))) rfl (by kernel_rfl) (by kernel_rfl) (by kernel_rfl) (l' := #[true, true, true, true, true, true, true, true, false, true, true, false, false, false, false, false, false, false, false]) rfl rfl ?_; intro K hK; go_big_quiet_op; go_big_quiet_on
      refine anyR_take0 11 _ (nthS (nthS (nthS (nthS (nthS (nthS (nthS (nthS (nthS (nthS (nthS (nth0)))))))))))) rfl (by kernel_rfl) (by kernel_rfl) (by kernel_rfl) (l' := #[true, true, true, true, true, true, true, true, false, true, true, true, false, false, false, false, false, false, false]) rfl rfl ?_; intro K hK; go_big_quiet_op; go_big_quiet_on
      refine anyR_one 8 _ (nthS (nthS (nthS (nthS (nthS (nthS (nthS (nthS (nth0))))))))) (by kernel_rfl) (l' := #[true, true, true, true, true, true, true, true, true, true, true, true, false, false, false, false, false, false, false]) rfl ?_
      clear xx
      go_wp2_with fail
      refine (cloneI_any l A c _ (LA.out _ hB4d) hl HnA.out).mono ?_
      rintro e w5 ⟨hb5, v5, rfl, ho5⟩
      go_wp2_with fail
      refine OneR_mk (hb5) ?_
      refine anyR_one 12 _ (nthS (nthS (nthS (nthS (nthS (nthS (nthS (nthS (nthS (nthS (nthS (nthS (nth0))))))))))))) (by kernel_rfl) (l' := #[true, true, true, true, true, true, true, true, true, true, true, true, true, false, false, false, false, false, false]) rfl ?_
      go_wp2_with fail
      refine (delete1_any l K _ _ _ ho5 hK2 hl).mono ?_
      rintro e w6 ⟨hb6, v6, rfl, ho6⟩
      obtain ⟨A6, c6, rfl, l6⟩ := own_liesI ho6
      have HL6 : (l.eraseIdx K).length ≤ maxLen := Nat.le_trans (List.length_eraseIdx_le _ _) HMX.out
      go_wp2_with fail
      refine OneR_mk (hb6) ?_
      refine anyR_one 13 _ (nthS (nthS (nthS (nthS (nthS (nthS (nthS (nthS (nthS (nthS (nthS (nthS (nthS (nth0)))))))))))))) (by kernel_rfl) (l' := #[true, true, true, true, true, true, true, true, true, true, true, true, true, true, false, false, false, false, false]) rfl ?_
      go_wp2_with fail
      refine (Received_at s t n (l.eraseIdx K) A6 c6 _ l6 HL6 Z 0 HRZ.out).mono ?_
      rintro e w6x ⟨rfl, rfl⟩
      go_wp2_with fail
      refine OneR_mk (Below.refl _ _) ?_
      refine anyR_take0 14 _ (nthS (nthS (nthS (nthS (nthS (nthS (nthS (nthS (nthS (nthS (nthS (nthS (nthS (nthS (nth0))))))))))))))) rfl (by kernel_rfl) (by kernel_rfl) (by kernel_rfl) (l' := #[true, true, true, true, true, true, true, true, true, true, true, true, true, true, true, false, false, false, false]) rfl rfl ?_; intro K hK; go_big_quiet_op; go_big_quiet_on
      refine anyR_take0 15 _ (nthS (nthS (nthS (nthS (nthS (nthS (nthS (nthS (nthS (nthS (nthS (nthS (nthS (nthS (nthS (nth0)))))))))))))))) rfl (by kernel_rfl) (by kernel_rfl) (by kernel_rfl) (l' := #[true, true, true, true, true, true, true, true, true, true, true, true, true, true, true, true, false, false, false]) rfl rfl ?_; intro K hK; go_big_quiet_op; go_big_quiet_on
      refine anyR_take0 16 _ (nthS (nthS (nthS (nthS (nthS (nthS (nthS (nthS (nthS (nthS (nthS (nthS (nthS (nthS (nthS (nthS (nth0))))))))))))))))) rfl (by kernel_rfl) (by kernel_rfl) (by kernel_rfl) (l' := #[true, true, true, true, true, true, true, true, true, true, true, true, true, true, true, true, true, false, false]) rfl rfl ?_; intro K hK; go_big_quiet_op; go_big_quiet_on
      refine anyR_take0 17 _ (nthS (nthS (nthS (nthS (nthS (nthS (nthS (nthS (nthS (nthS (nthS (nthS (nthS (nthS (nthS (nthS (nthS (nth0)))))))))))))))))) rfl (by kernel_rfl) (by kernel_rfl) (by kernel_rfl) (l' := #[true, true, true, true, true, true, true, true, true, true, true, true, true, true, true, true, true, true, false]) rfl rfl ?_; intro K hK; go_big_quiet_op; go_big_quiet_on
      refine anyR_take0 18 _ (nthS (nthS (nthS (nthS (nthS (nthS (nthS (nthS (nthS (nthS (nthS (nthS (nthS (nthS (nthS (nthS (nthS (nthS (nth0))))))))))))))))))) rfl (by kernel_rfl) (by kernel_rfl) (by kernel_rfl) (l' := #[true, true, true, true, true, true, true, true, true, true, true, true, true, true, true, true, true, true, true]) rfl rfl ?_; intro K hK; go_big_quiet_op; go_big_quiet_on
      refine anyR_end (by kernel_rfl) ?_
      have hB6 : Below M W1 w6 := (hB4d.trans (hb5.mono (HW.out _ hB4d).2)).trans (hb6.mono (HW.out _ hB4d).2)
      cases Z
      all_goals try (cases hXZ; done)
      all_goals
        go_wp2_with fail
        go_ret
        exact ⟨rfl, by rw [← HN.out]; exact (HW.out _ hB6).1⟩
  by_cases hm1 : 68719476736 - s < m
  · go_wp2_with fail
    have hB3d : Below M W1 w3.drew := hB3.drew
    have hN3 : N < w3.heap.size := by have := (HW.out _ hB3).2; omega
    have xx : ∀ (x : ExtW w3.heap.size w3.drew) (i : Nat), x.val.cell? ⟨N, i, none⟩ = _ := (HRow.out _ hB3d).ext hN3
    refine wp_region_rough (w3.heap.size) 17 [] #[false, false, false, false, false, false, false, false, false, false, false, false, false, false, false, false, false] (by kernel_rfl) rfl rfl ?_
    refine anyR_take0 0 _ (nth0) rfl (by kernel_rfl) (by kernel_rfl) (by kernel_rfl) (l' := #[true, false, false, false, false, false, false, false, false, false, false, false, false, false, false, false, false]) rfl rfl ?_; intro K hK; go_big_quiet_op; go_big_quiet_on
    refine anyR_take 1 _ (nthS (nth0)) rfl (by kernel_rfl) (by kernel_rfl) (by kernel_rfl) (by kernel_rfl) (l' := #[true, true, false, false, false, false, false, false, false, false, false, false, false, false, false, false, false]) rfl rfl ?_; intro K hK; go_big_quiet_op; go_big_quiet_on
    refine anyR_take0 2 _ (nthS (nthS (nth0))) rfl (by kernel_rfl) (by kernel_rfl) (by kernel_rfl) (l' := #[true, true, true, false, false, false, false, false, false, false, false, false, false, false, false, false, false]) rfl rfl ?_; intro K hK; go_big_quiet_op; go_big_quiet_on
    refine anyR_take0 3 _ (nthS (nthS (nthS (nth0)))) rfl (by kernel_rfl) (by kernel_rfl) (by kernel_rfl) (l' := #[true, true, true, true, false, false, false, false, false, false, false, false, false, false, false, false, false]) rfl rfl ?_; intro K hK; go_big_quiet_op; go_big_quiet_on
    refine anyR_take0 4 _ (nthS (nthS (nthS (nthS (nth0))))) rfl (by kernel_rfl) (by kernel_rfl) (by kernel_rfl) (l' := #[true, true, true, true, true, false, false, false, false, false, false, false, false, false, false, false, false]) rfl rfl ?_; intro K hK; go_big_quiet_op; go_big_quiet_on
    refine anyR_take 5 _ (nthS (nthS (nthS (nthS (nthS (nth0)))))) rfl (by kernel_rfl) (by kernel_rfl) (by kernel_rfl) (by kernel_rfl) (l' := #[true, true, true, true, true, true, false, false, false, false, false, false, false, false, false, false, false]) rfl rfl ?_; intro K hK; go_big_quiet_op; go_big_quiet_on
    refine anyR_take0 6 _ (nthS (nthS (nthS (nthS (nthS (nthS (nth0))))))) rfl (by kernel_rfl) (by kernel_rfl) (by kernel_rfl) (l' := #[true, true, true, true, true, true, true, false, false, false, false, false, false, false, false, false, false]) rfl rfl ?_; intro K hK; go_big_quiet_op; go_big_quiet_on
    refine anyR_take 7 _ (nthS (nthS (nthS (nthS (nthS (nthS (nthS (nth0)))))))) rfl (by kernel_rfl) (by kernel_rfl) (by kernel_rfl) (by kernel_rfl) (l' := #[true, true, true, true, true, true, true, true, false, false, false, false, false, false, false, false, false]) rfl rfl ?_; intro K hK; go_big_quiet_op; go_big_quiet_on
    refine anyR_take0 8 _ (nthS (nthS (nthS (nthS (nthS (nthS (nthS (nthS (nth0))))))))) rfl (by kernel_rfl) (by kernel_rfl) (by kernel_rfl) (l' := #[true, true, true, true, true, true, true, true, true, false, false, false, false, false, false, false, false]) rfl rfl ?_; intro K hK; go_big_quiet_op; go_big_quiet_on
    refine anyR_take 9 _ (nthS (nthS (nthS (nthS (nthS (nthS (nthS (nthS (nthS (nth0)))))))))) rfl (by kernel_rfl) (by kernel_rfl) (by kernel_rfl) (by kernel_rfl) (l' := #[true, true, true, true, true, true, true, true, true, true, false, false, false, false, false, false, false]) rfl rfl ?_; intro K hK; go_big_quiet_op; go_big_quiet_on
    refine anyR_one 10 _ (nthS (nthS (nthS (nthS (nthS (nthS (nthS (nthS (nthS (nthS (nth0))))))))))) (by kernel_rfl) (l' := #[true, true, true, true, true, true, true, true, true, true, true, false, false, false, false, false, false]) rfl ?_
    clear xx
    go_wp2_with fail
    refine (cloneI_any l A c _ (LA.out _ hB3d) hl HnA.out).mono ?_
    rintro e w4 ⟨hb4, v4, rfl, ho4⟩
    obtain ⟨A4, c4, rfl, l4⟩ := own_liesI ho4
    have hB4 : Below M W1 w4 := hB3d.trans (hb4.mono (HW.out _ hB3d).2)
    clear ho4
    go_wp2_with fail
    refine OneR_mk (hb4) ?_
    refine anyR_one 11 _ (nthS (nthS (nthS (nthS (nthS (nthS (nthS (nthS (nthS (nthS (nthS (nth0)))))))))))) (by kernel_rfl) (l' := #[true, true, true, true, true, true, true, true, true, true, true, true, false, false, false, false, false]) rfl ?_
    go_wp2_with fail
    refine (Received_at s t n l A4 c4 _ l4 HMX.out X 0 HRX.out).mono ?_
    rintro e w4x ⟨rfl, rfl⟩
    go_wp2_with fail
    refine OneR_mk (Below.refl _ _) ?_
    refine anyR_take0 12 _ (nthS (nthS (nthS (nthS (nthS (nthS (nthS (nthS (nthS (nthS (nthS (nthS (nth0))))))))))))) rfl (by kernel_rfl) (by kernel_rfl) (by kernel_rfl) (l' := #[true, true, true, true, true, true, true, true, true, true, true, true, true, false, false, false, false]) rfl rfl ?_; intro K hK; go_big_quiet_op; go_big_quiet_on
    refine anyR_take0 13 _ (nthS (nthS (nthS (nthS (nthS (nthS (nthS (nthS (nthS (nthS (nthS (nthS (nthS (nth0)))))))))))))) rfl (by kernel_rfl) (by kernel_rfl) (by kernel_rfl) (l' := #[true, true, true, true, true, true, true, true, true, true, true, true, true, true, false, false, false]) rfl rfl ?_; intro K hK; go_big_quiet_op; go_big_quiet_on
    refine anyR_take0 14 _ (nthS (nthS (nthS (nthS (nthS (nthS (nthS (nthS (nthS (nthS (nthS (nthS (nthS (nthS (nth0))))))))))))))) rfl (by kernel_rfl) (by kernel_rfl) (by kernel_rfl) (l' := #[true, true, true, true, true, true, true, true, true, true, true, true, true, true, true, false, false]) rfl rfl ?_; intro K hK; go_big_quiet_op; go_big_quiet_on
    refine anyR_take0 15 _ (nthS (nthS (nthS (nthS (nthS (nthS (nthS (nthS (nthS (nthS (nthS (nthS (nthS (nthS (nthS (nth0)))))))))))))))) rfl (by kernel_rfl) (by kernel_rfl) (by kernel_rfl) (l' := #[true, true, true, true, true, true, true, true, true, true, true, true, true, true, true, true, false]) rfl rfl ?_; intro K hK; go_big_quiet_op; go_big_quiet_on
    refine anyR_take0 16 _ (nthS (nthS (nthS (nthS (nthS (nthS (nthS (nthS (nthS (nthS (nthS (nthS (nthS (nthS (nthS (nthS (nth0))))))))))))))))) rfl (by kernel_rfl) (by kernel_rfl) (by kernel_rfl) (l' := #[true, true, true, true, true, true, true, true, true, true, true, true, true, true, true, true, true]) rfl rfl ?_; intro K hK; go_big_quiet_op; go_big_quiet_on
    refine anyR_end (by kernel_rfl) ?_
    clear r3 l4 hb4
    have r4 := HRow.out _ hB4
    unfold Row at r4
    have hxy := (show (X && !X) = false by cases X <;> rfl)
    by_cases hl0 : l = []
    · subst hl0
      simp only [List.length_nil] at *
      cases X <;> first | (cases hxy; done) | (go_wp2_with fail; go_ret; exact ⟨rfl, by rw [← HN.out]; exact (HW.out _ hB4).1⟩)
    obtain ⟨K, hK1, hK2⟩ := HK.out hl0
    obtain ⟨Z, hZ, hXZ⟩ := mono_less K HRX.out
    have HRZ := Lib.hid hZ
    clear hZ hl0
    have hwK : IntKind.i64.wrap ((K : Int) + 1) = (K : Int) + 1 := by rw [IntKind.wrap_i64]; omega
    have hne0 : ((l.length : Int) == 0) = false := by rw [beq_eq_false_iff_ne]; omega
    have hne1 : (l.length : Int) ≠ 0 := by omega
    have hne2 : ¬ l.length = 0 := by omega
    cases X
    all_goals
      go_wp2_with fail
      have hB4d : Below M W1 w4.drew := hB4.drew
      have hN4 : N < w4.heap.size := by have := (HW.out _ hB4).2; omega
      have xx : ∀ (x : ExtW w4.heap.size w4.drew) (i : Nat), x.val.cell? ⟨N, i, none⟩ = _ := (HRow.out _ hB4d).ext hN4
      refine wp_region_rough (w4.heap.size) 19 [] #[false, false, false, false, false, false, false, false, false, false, false, false, false, false, false, false, false, false, false] (by kernel_rfl) rfl rfl ?_
      refine anyR_take0 0 _ (nth0) rfl (by kernel_rfl) (by kernel_rfl) (by kernel_rfl) (l' := #[true, false, false, false, false, false, false, false, false, false, false, false, false, false, false, false, false, false, false]) rfl rfl ?_; intro K hK; go_big_quiet_op; go_big_quiet_on
      refine anyR_take 1 _ (nthS (nth0)) rfl (by kernel_rfl) (by kernel_rfl) (by kernel_rfl) (by kernel_rfl) (l' := #[true, true, false, false, false, false, false, false, false, false, false, false, false, false, false, false, false, false, false]) rfl rfl ?_; intro K hK; go_big_quiet_op; go_big_quiet_on
      refine anyR_take0 2 _ (nthS (nthS (nth0))) rfl (by kernel_rfl) (by kernel_rfl) (by kernel_rfl) (l' := #[true, true, true, false, false, false, false, false, false, false, false, false, false, false, false, false, false, false, false]) rfl rfl ?_; intro K hK; go_big_quiet_op; go_big_quiet_on
      refine anyR_take 3 _ (nthS (nthS (nthS (nth0)))) rfl (by kernel_rfl) (by kernel_rfl) (by kernel_rfl) (by kernel_rfl) (l' := #[true, true, true, true, false, false, false, false, false, false, false, false, false, false, false, false, false, false, false]) rfl rfl ?_; intro K hK; go_big_quiet_op; go_big_quiet_on
      refine anyR_take0 4 _ (nthS (nthS (nthS (nthS (nth0))))) rfl (by kernel_rfl) (by kernel_rfl) (by kernel_rfl) (l' := #[true, true, true, true, true, false, false, false, false, false, false, false, false, false, false, false, false, false, false]) rfl rfl ?_; intro K hK; go_big_quiet_op; go_big_quiet_on
      refine anyR_take 5 _ (nthS (nthS (nthS (nthS (nthS (nth0)))))) rfl (by kernel_rfl) (by kernel_rfl) (by kernel_rfl) (by kernel_rfl) (l' := #[true, true, true, true, true, true, false, false, false, false, false, false, false, false, false, false, false, false, false]) rfl rfl ?_; intro K hK; go_big_quiet_op; go_big_quiet_on
      refine anyR_take0 6 _ (nthS (nthS (nthS (nthS (nthS (nthS (nth0))))))) rfl (by kernel_rfl) (by kernel_rfl) (by kernel_rfl) (l' := #[true, true, true, true, true, true, true, false, false, false, false, false, false, false, false, false, false, false, false]) rfl rfl ?_; intro K hK; go_big_quiet_op; go_big_quiet_on
      refine anyR_take 7 _ (nthS (nthS (nthS (nthS (nthS (nthS (nthS (nth0)))))))) rfl (by kernel_rfl) (by kernel_rfl) (by kernel_rfl) (by kernel_rfl) (l' := #[true, true, true, true, true, true, true, true, false, false, false, false, false, false, false, false, false, false, false]) rfl rfl ?_; intro K hK; go_big_quiet_op; go_big_quiet_on
      refine anyR_take0 9 _ (nthS (nthS (nthS (nthS (nthS (nthS (nthS (nthS (nthS (nth0)))))))))) rfl (by kernel_rfl) (by kernel_rfl) (by kernel_rfl) (l' := #[true, true, true, true, true, true, true, true, false, true, false, false, false, false, false, false, false, false, false]) rfl rfl ?_; intro K hK; go_big_quiet_op; go_big_quiet_on
      refine anyR_take0 10 _ (nthS (nthS (nthS (nthS (nthS (nthS (nthS (nthS (nthS (nthS (nth0))))))))))) rfl (by kernel_rfl) (by kernel_rfl) (by kernel_rfl) (l' := #[true, true, true, true, true, true, true, true, false, true, true, false, false, false, false, false, false, false, false]) rfl rfl ?_; intro K hK; go_big_quiet_op; go_big_quiet_on
      refine anyR_take0 11 _ (nthS (nthS (nthS (nthS (nthS (nthS (nthS (nthS (nthS (nthS (nthS (nth0)))))))))))) rfl (by kernel_rfl) (by kernel_rfl) (by kernel_rfl) (l' := #[true, true, true, true, true, true, true, true, false, true, true, true, false, false, false, false, false, false, false]) rfl rfl ?_; intro K hK; go_big_quiet_op; go_big_quiet_on
      refine anyR_one 8 _ (nthS (nthS (nthS (nthS (nthS (nthS (nthS (nthS (nth0))))))))) (by kernel_rfl) (l' := #[true, true, true, true, true, true, true, true, true, true, true, true, false, false, false, false, false, false, false]) rfl ?_
      clear xx
      go_wp2_with fail
      refine (cloneI_any l A c _ (LA.out _ hB4d) hl HnA.out).mono ?_
      rintro e w5 ⟨hb5, v5, rfl, ho5⟩
      go_wp2_with fail
      refine OneR_mk (hb5) ?_
      refine anyR_one 12 _ (nthS (nthS (nthS (nthS (nthS (nthS (nthS (nthS (nthS (nthS (nthS (nthS (nth0))))))))))))) (by kernel_rfl) (l' := #[true, true, true, true, true, true, true, true, true, true, true, true, true, false, false, false, false, false, false]) rfl ?_
      go_wp2_with fail
      refine (delete1_any l K _ _ _ ho5 hK2 hl).mono ?_
      rintro e w6 ⟨hb6, v6, rfl, ho6⟩
      obtain ⟨A6, c6, rfl, l6⟩ := own_liesI ho6
      have HL6 : (l.eraseIdx K).length ≤ maxLen := Nat.le_trans (List.length_eraseIdx_le _ _) HMX.out
      go_wp2_with fail
      refine OneR_mk (hb6) ?_
      refine anyR_one 13 _ (nthS (nthS (nthS (nthS (nthS (nthS (nthS (nthS (nthS (nthS (nthS (nthS (nthS (nth0)))))))))))))) (by kernel_rfl) (l' := #[true, true, true, true, true, true, true, true, true, true, true, true, true, true, false, false, false, false, false]) rfl ?_
      go_wp2_with fail
      refine (Received_at s t n (l.eraseIdx K) A6 c6 _ l6 HL6 Z 0 HRZ.out).mono ?_
      rintro e w6x ⟨rfl, rfl⟩
      go_wp2_with fail
      refine OneR_mk (Below.refl _ _) ?_
      refine anyR_take0 14 _ (nthS (nthS (nthS (nthS (nthS (nthS (nthS (nthS (nthS (nthS (nthS (nthS (nthS (nthS (nth0))))))))))))))) rfl (by kernel_rfl) (by kernel_rfl) (by kernel_rfl) (l' := #[true, true, true, true, true, true, true, true, true, true, true, true, true, true, true, false, false, false, false]) rfl rfl ?_; intro K hK; go_big_quiet_op; go_big_quiet_on
      refine anyR_take0 15 _ (nthS (nthS (nthS (nthS (nthS (nthS (nthS (nthS (nthS (nthS (nthS (nthS (nthS (nthS (nthS (nth0)))))))))))))))) rfl (by kernel_rfl) (by kernel_rfl) (by kernel_rfl) (l' := #[true, true, true, true, true, true, true, true, true, true, true, true, true, true, true, true, false, false, false]) rfl rfl ?_; intro K hK; go_big_quiet_op; go_big_quiet_on
      refine anyR_take0 16 _ (nthS (nthS (nthS (nthS (nthS (nthS (nthS (nthS (nthS (nthS (nthS (nthS (nthS (nthS (nthS (nthS (nth0))))))))))))))))) rfl (by kernel_rfl) (by kernel_rfl) (by kernel_rfl) (l' := #[true, true, true, true, true, true, true, true, true, true, true, true, true, true, true, true, true, false, false]) rfl rfl ?_; intro K hK; go_big_quiet_op; go_big_quiet_on
      refine anyR_take0 17 _ (nthS (nthS (nthS (nthS (nthS (nthS (nthS (nthS (nthS (nthS (nthS (nthS (nthS (nthS (nthS (nthS (nthS (nth0)))))))))))))))))) rfl (by kernel_rfl) (by kernel_rfl) (by kernel_rfl) (l' := #[true, true, true, true, true, true, true, true, true, true, true, true, true, true, true, true, true, true, false]) rfl rfl ?_; intro K hK; go_big_quiet_op; go_big_quiet_on
      refine anyR_take0 18 _ (nthS (nthS (nthS (nthS (nthS (nthS (nthS (nthS (nthS (nthS (nthS (nthS (nthS (nthS (nthS (nthS (nthS (nthS (nth0))))))))))))))))))) rfl (by kernel_rfl) (by kernel_rfl) (by kernel_rfl) (l' := #[true, true, true, true, true, true, true, true, true, true, true, true, true, true, true, true, true, true, true]) rfl rfl ?_; intro K hK; go_big_quiet_op; go_big_quiet_on
      refine anyR_end (by kernel_rfl) ?_
      have hB6 : Below M W1 w6 := (hB4d.trans (hb5.mono (HW.out _ hB4d).2)).trans (hb6.mono (HW.out _ hB4d).2)
      cases Z
      all_goals try (cases hXZ; done)
      all_goals
        go_wp2_with fail
        go_ret
        exact ⟨rfl, by rw [← HN.out]; exact (HW.out _ hB6).1⟩
  obtain ⟨Y, hY, hXY⟩ := mono_more HRX.out (show 0 ≤ m by omega) (show m ≤ 68719476736 - s by omega)
  have HRY := Lib.hid hY
  have HXY := Lib.hid hXY
  clear hY hXY
  have hws : IntKind.i64.wrap (s + m) = s + m := by rw [IntKind.wrap_i64]; omega
  go_wp2_with fail
  have hB3d : Below M W1 w3.drew := hB3.drew
  have hN3 : N < w3.heap.size := by have := (HW.out _ hB3).2; omega
  have xx : ∀ (x : ExtW w3.heap.size w3.drew) (i : Nat), x.val.cell? ⟨N, i, none⟩ = _ := (HRow.out _ hB3d).ext hN3
  refine wp_region_rough (w3.heap.size) 17 [] #[false, false, false, false, false, false, false, false, false, false, false, false, false, false, false, false, false] (by kernel_rfl) rfl rfl ?_
  refine anyR_take0 0 _ (nth0) rfl (by kernel_rfl) (by kernel_rfl) (by kernel_rfl) (l' := #[true, false, false, false, false, false, false, false, false, false, false, false, false, false, false, false, false]) rfl rfl ?_; intro K hK; go_big_quiet_op; go_big_quiet_on
  refine anyR_take 1 _ (nthS (nth0)) rfl (by kernel_rfl) (by kernel_rfl) (by kernel_rfl) (by kernel_rfl) (l' := #[true, true, false, false, false, false, false, false, false, false, false, false, false, false, false, false, false]) rfl rfl ?_; intro K hK; go_big_quiet_op; go_big_quiet_on
  refine anyR_take0 2 _ (nthS (nthS (nth0))) rfl (by kernel_rfl) (by kernel_rfl) (by kernel_rfl) (l' := #[true, true, true, false, false, false, false, false, false, false, false, false, false, false, false, false, false]) rfl rfl ?_; intro K hK; go_big_quiet_op; go_big_quiet_on
  refine anyR_take0 3 _ (nthS (nthS (nthS (nth0)))) rfl (by kernel_rfl) (by kernel_rfl) (by kernel_rfl) (l' := #[true, true, true, true, false, false, false, false, false, false, false, false, false, false, false, false, false]) rfl rfl ?_; intro K hK; go_big_quiet_op; go_big_quiet_on
  refine anyR_take0 4 _ (nthS (nthS (nthS (nthS (nth0))))) rfl (by kernel_rfl) (by kernel_rfl) (by kernel_rfl) (l' := #[true, true, true, true, true, false, false, false, false, false, false, false, false, false, false, false, false]) rfl rfl ?_; intro K hK; go_big_quiet_op; go_big_quiet_on
  refine anyR_take 5 _ (nthS (nthS (nthS (nthS (nthS (nth0)))))) rfl (by kernel_rfl) (by kernel_rfl) (by kernel_rfl) (by kernel_rfl) (l' := #[true, true, true, true, true, true, false, false, false, false, false, false, false, false, false, false, false]) rfl rfl ?_; intro K hK; go_big_quiet_op; go_big_quiet_on
  refine anyR_take0 6 _ (nthS (nthS (nthS (nthS (nthS (nthS (nth0))))))) rfl (by kernel_rfl) (by kernel_rfl) (by kernel_rfl) (l' := #[true, true, true, true, true, true, true, false, false, false, false, false, false, false, false, false, false]) rfl rfl ?_; intro K hK; go_big_quiet_op; go_big_quiet_on
  refine anyR_take 7 _ (nthS (nthS (nthS (nthS (nthS (nthS (nthS (nth0)))))))) rfl (by kernel_rfl) (by kernel_rfl) (by kernel_rfl) (by kernel_rfl) (l' := #[true, true, true, true, true, true, true, true, false, false, false, false, false, false, false, false, false]) rfl rfl ?_; intro K hK; go_big_quiet_op; go_big_quiet_on
  refine anyR_take0 8 _ (nthS (nthS (nthS (nthS (nthS (nthS (nthS (nthS (nth0))))))))) rfl (by kernel_rfl) (by kernel_rfl) (by kernel_rfl) (l' := #[true, true, true, true, true, true, true, true, true, false, false, false, false, false, false, false, false]) rfl rfl ?_; intro K hK; go_big_quiet_op; go_big_quiet_on
  refine anyR_take 9 _ (nthS (nthS (nthS (nthS (nthS (nthS (nthS (nthS (nthS (nth0)))))))))) rfl (by kernel_rfl) (by kernel_rfl) (by kernel_rfl) (by kernel_rfl) (l' := #[true, true, true, true, true, true, true, true, true, true, false, false, false, false, false, false, false]) rfl rfl ?_; intro K hK; go_big_quiet_op; go_big_quiet_on
  refine anyR_one 10 _ (nthS (nthS (nthS (nthS (nthS (nthS (nthS (nthS (nthS (nthS (nth0))))))))))) (by kernel_rfl) (l' := #[true, true, true, true, true, true, true, true, true, true, true, false, false, false, false, false, false]) rfl ?_
  clear xx
  go_wp2_with fail
  refine (cloneI_any l A c _ (LA.out _ hB3d) hl HnA.out).mono ?_
  rintro e w4 ⟨hb4, v4, rfl, ho4⟩
  obtain ⟨A4, c4, rfl, l4⟩ := own_liesI ho4
  have hB4 : Below M W1 w4 := hB3d.trans (hb4.mono (HW.out _ hB3d).2)
  clear ho4
  go_wp2_with fail
  refine OneR_mk (hb4) ?_
  refine anyR_one 11 _ (nthS (nthS (nthS (nthS (nthS (nthS (nthS (nthS (nthS (nthS (nthS (nth0)))))))))))) (by kernel_rfl) (l' := #[true, true, true, true, true, true, true, true, true, true, true, true, false, false, false, false, false]) rfl ?_
  go_wp2_with fail
  refine (Received_at (s + m) t n l A4 c4 _ l4 HMX.out Y 0 HRY.out).mono ?_
  rintro e w4x ⟨rfl, rfl⟩
  go_wp2_with fail
  refine OneR_mk (Below.refl _ _) ?_
  refine anyR_take0 12 _ (nthS (nthS (nthS (nthS (nthS (nthS (nthS (nthS (nthS (nthS (nthS (nthS (nth0))))))))))))) rfl (by kernel_rfl) (by kernel_rfl) (by kernel_rfl) (l' := #[true, true, true, true, true, true, true, true, true, true, true, true, true, false, false, false, false]) rfl rfl ?_; intro K hK; go_big_quiet_op; go_big_quiet_on
  refine anyR_take0 13 _ (nthS (nthS (nthS (nthS (nthS (nthS (nthS (nthS (nthS (nthS (nthS (nthS (nthS (nth0)))))))))))))) rfl (by kernel_rfl) (by kernel_rfl) (by kernel_rfl) (l' := #[true, true, true, true, true, true, true, true, true, true, true, true, true, true, false, false, false]) rfl rfl ?_; intro K hK; go_big_quiet_op; go_big_quiet_on
  refine anyR_take0 14 _ (nthS (nthS (nthS (nthS (nthS (nthS (nthS (nthS (nthS (nthS (nthS (nthS (nthS (nthS (nth0))))))))))))))) rfl (by kernel_rfl) (by kernel_rfl) (by kernel_rfl) (l' := #[true, true, true, true, true, true, true, true, true, true, true, true, true, true, true, false, false]) rfl rfl ?_; intro K hK; go_big_quiet_op; go_big_quiet_on
  refine anyR_take0 15 _ (nthS (nthS (nthS (nthS (nthS (nthS (nthS (nthS (nthS (nthS (nthS (nthS (nthS (nthS (nthS (nth0)))))))))))))))) rfl (by kernel_rfl) (by kernel_rfl) (by kernel_rfl) (l' := #[true, true, true, true, true, true, true, true, true, true, true, true, true, true, true, true, false]) rfl rfl ?_; intro K hK; go_big_quiet_op; go_big_quiet_on
  refine anyR_take0 16 _ (nthS (nthS (nthS (nthS (nthS (nthS (nthS (nthS (nthS (nthS (nthS (nthS (nthS (nthS (nthS (nthS (nth0))))))))))))))))) rfl (by kernel_rfl) (by kernel_rfl) (by kernel_rfl) (l' := #[true, true, true, true, true, true, true, true, true, true, true, true, true, true, true, true, true]) rfl rfl ?_; intro K hK; go_big_quiet_op; go_big_quiet_on
  refine anyR_end (by kernel_rfl) ?_
  clear r3 l4 hb4
  have r4 := HRow.out _ hB4
  unfold Row at r4
  have hxy := HXY.out
  by_cases hl0 : l = []
  · subst hl0
    simp only [List.length_nil] at *
    cases X <;> cases Y <;> first | (cases hxy; done) | (go_wp2_with fail; go_ret; exact ⟨rfl, by rw [← HN.out]; exact (HW.out _ hB4).1⟩)
  obtain ⟨K, hK1, hK2⟩ := HK.out hl0
  obtain ⟨Z, hZ, hXZ⟩ := mono_less K HRX.out
  have HRZ := Lib.hid hZ
  clear hZ hl0
  have hwK : IntKind.i64.wrap ((K : Int) + 1) = (K : Int) + 1 := by rw [IntKind.wrap_i64]; omega
  have hne0 : ((l.length : Int) == 0) = false := by rw [beq_eq_false_iff_ne]; omega
  have hne1 : (l.length : Int) ≠ 0 := by omega
  have hne2 : ¬ l.length = 0 := by omega
  cases X
  all_goals
    cases Y
    all_goals try (cases hxy; done)
    all_goals
      go_wp2_with fail
      have hB4d : Below M W1 w4.drew := hB4.drew
      have hN4 : N < w4.heap.size := by have := (HW.out _ hB4).2; omega
      have xx : ∀ (x : ExtW w4.heap.size w4.drew) (i : Nat), x.val.cell? ⟨N, i, none⟩ = _ := (HRow.out _ hB4d).ext hN4
      refine wp_region_rough (w4.heap.size) 19 [] #[false, false, false, false, false, false, false, false, false, false, false, false, false, false, false, false, false, false, false] (by kernel_rfl) rfl rfl ?_
      refine anyR_take0 0 _ (nth0) rfl (by kernel_rfl) (by kernel_rfl) (by kernel_rfl) (l' := #[true, false, false, false, false, false, false, false, false, false, false, false, false, false, false, false, false, false, false]) rfl rfl ?_; intro K hK; go_big_quiet_op; go_big_quiet_on
      refine anyR_take 1 _ (nthS (nth0)) rfl (by kernel_rfl) (by kernel_rfl) (by kernel_rfl) (by kernel_rfl) (l' := #[true, true, false, false, false, false, false, false, false, false, false, false, false, false, false, false, false, false, false]) rfl rfl ?_; intro K hK; go_big_quiet_op; go_big_quiet_on
      refine anyR_take0 2 _ (nthS (nthS (nth0))) rfl (by kernel_rfl) (by kernel_rfl) (by kernel_rfl) (l' := #[true, true, true, false, false, false, false, false, false, false, false, false, false, false, false, false, false, false, false]) rfl rfl ?_; intro K hK; go_big_quiet_op; go_big_quiet_on
      refine anyR_take 3 _ (nthS (nthS (nthS (nth0)))) rfl (by kernel_rfl) (by kernel_rfl) (by kernel_rfl) (by kernel_rfl) (l' := #[true, true, true, true, false, false, false, false, false, false, false, false, false, false, false, false, false, false, false]) rfl rfl ?_; intro K hK; go_big_quiet_op; go_big_quiet_on
      refine anyR_take0 4 _ (nthS (nthS (nthS (nthS (nth0))))) rfl (by kernel_rfl) (by kernel_rfl) (by kernel_rfl) (l' := #[true, true, true, true, true, false, false, false, false, false, false, false, false, false, false, false, false, false, false]) rfl rfl ?_; intro K hK; go_big_quiet_op; go_big_quiet_on
      refine anyR_take 5 _ (nthS (nthS (nthS (nthS (nthS (nth0)))))) rfl (by kernel_rfl) (by kernel_rfl) (by kernel_rfl) (by kernel_rfl) (l' := #[true, true, true, true, true, true, false, false, false, false, false, false, false, false, false, false, false, false, false]) rfl rfl ?_; intro K hK; go_big_quiet_op; go_big_quiet_on
      refine anyR_take0 6 _ (nthS (nthS (nthS (nthS (nthS (nthS (nth0))))))) rfl (by kernel_rfl) (by kernel_rfl) (by kernel_rfl) (l' := #[true, true, true, true, true, true, true, false, false, false, false, false, false, false, false, false, false, false, false]) rfl rfl ?_; intro K hK; go_big_quiet_op; go_big_quiet_on
      refine anyR_take 7 _ (nthS (nthS (nthS (nthS (nthS (nthS (nthS (nth0)))))))) rfl (by kernel_rfl) (by kernel_rfl) (by kernel_rfl) (by kernel_rfl) (l' := #[true, true, true, true, true, true, true, true, false, false, false, false, false, false, false, false, false, false, false]) rfl rfl ?_; intro K hK; go_big_quiet_op; go_big_quiet_on
      refine anyR_take0 9 _ (nthS (nthS (nthS (nthS (nthS (nthS (nthS (nthS (nthS (nth0)))))))))) rfl (by kernel_rfl) (by kernel_rfl) (by kernel_rfl) (l' := #[true, true, true, true, true, true, true, true, false, true, false, false, false, false, false, false, false, false, false]) rfl rfl ?_; intro K hK; go_big_quiet_op; go_big_quiet_on
      refine anyR_take0 10 _ (nthS (nthS (nthS (nthS (nthS (nthS (nthS (nthS (nthS (nthS (nth0))))))))))) rfl (by kernel_rfl) (by kernel_rfl) (by kernel_rfl) (l' := #[true, true, true, true, true, true, true, true, false, true, true, false, false, false, false, false, false, false, false]) rfl rfl ?_; intro K hK; go_big_quiet_op; go_big_quiet_on
      refine anyR_take0 11 _ (nthS (nthS (nthS (nthS (nthS (nthS (nthS (nthS (nthS (nthS (nthS (nth0)))))))))))) rfl (by kernel_rfl) (by kernel_rfl) (by kernel_rfl) (l' := #[true, true, true, true, true, true, true, true, false, true, true, true, false, false, false, false, false, false, false]) rfl rfl ?_; intro K hK; go_big_quiet_op; go_big_quiet_on
      refine anyR_one 8 _ (nthS (nthS (nthS (nthS (nthS (nthS (nthS (nthS (nth0))))))))) (by kernel_rfl) (l' := #[true, true, true, true, true, true, true, true, true, true, true, true, false, false, false, false, false, false, false]) rfl ?_
      clear xx
      go_wp2_with fail
      refine (cloneI_any l A c _ (LA.out _ hB4d) hl HnA.out).mono ?_
      rintro e w5 ⟨hb5, v5, rfl, ho5⟩
      go_wp2_with fail
      refine OneR_mk (hb5) ?_
      refine anyR_one 12 _ (nthS (nthS (nthS (nthS (nthS (nthS (nthS (nthS (nthS (nthS (nthS (nthS (nth0))))))))))))) (by kernel_rfl) (l' := #[true, true, true, true, true, true, true, true, true, true, true, true, true, false, false, false, false, false, false]) rfl ?_
      go_wp2_with fail
      refine (delete1_any l K _ _ _ ho5 hK2 hl).mono ?_
      rintro e w6 ⟨hb6, v6, rfl, ho6⟩
      obtain ⟨A6, c6, rfl, l6⟩ := own_liesI ho6
      have HL6 : (l.eraseIdx K).length ≤ maxLen := Nat.le_trans (List.length_eraseIdx_le _ _) HMX.out
      go_wp2_with fail
      refine OneR_mk (hb6) ?_
      refine anyR_one 13 _ (nthS (nthS (nthS (nthS (nthS (nthS (nthS (nthS (nthS (nthS (nthS (nthS (nthS (nth0)))))))))))))) (by kernel_rfl) (l' := #[true, true, true, true, true, true, true, true, true, true, true, true, true, true, false, false, false, false, false]) rfl ?_
      go_wp2_with fail
      refine (Received_at s t n (l.eraseIdx K) A6 c6 _ l6 HL6 Z 0 HRZ.out).mono ?_
      rintro e w6x ⟨rfl, rfl⟩
      go_wp2_with fail
      refine OneR_mk (Below.refl _ _) ?_
      refine anyR_take0 14 _ (nthS (nthS (nthS (nthS (nthS (nthS (nthS (nthS (nthS (nthS (nthS (nthS (nthS (nthS (nth0))))))))))))))) rfl (by kernel_rfl) (by kernel_rfl) (by kernel_rfl) (l' := #[true, true, true, true, true, true, true, true, true, true, true, true, true, true, true, false, false, false, false]) rfl rfl ?_; intro K hK; go_big_quiet_op; go_big_quiet_on
      refine anyR_take0 15 _ (nthS (nthS (nthS (nthS (nthS (nthS (nthS (nthS (nthS (nthS (nthS (nthS (nthS (nthS (nthS (nth0)))))))))))))))) rfl (by kernel_rfl) (by kernel_rfl) (by kernel_rfl) (l' := #[true, true, true, true, true, true, true, true, true, true, true, true, true, true, true, true, false, false, false]) rfl rfl ?_; intro K hK; go_big_quiet_op; go_big_quiet_on
      refine anyR_take0 16 _ (nthS (nthS (nthS (nthS (nthS (nthS (nthS (nthS (nthS (nthS (nthS (nthS (nthS (nthS (nthS (nthS (nth0))))))))))))))))) rfl (by kernel_rfl) (by kernel_rfl) (by kernel_rfl) (l' := #[true, true, true, true, true, true, true, true, true, true, true, true, true, true, true, true, true, false, false]) rfl rfl ?_; intro K hK; go_big_quiet_op; go_big_quiet_on
      refine anyR_take0 17 _ (nthS (nthS (nthS (nthS (nthS (nthS (nthS (nthS (nthS (nthS (nthS (nthS (nthS (nthS (nthS (nthS (nthS (nth0)))))))))))))))))) rfl (by kernel_rfl) (by kernel_rfl) (by kernel_rfl) (l' := #[true, true, true, true, true, true, true, true, true, true, true, true, true, true, true, true, true, true, false]) rfl rfl ?_; intro K hK; go_big_quiet_op; go_big_quiet_on
      refine anyR_take0 18 _ (nthS (nthS (nthS (nthS (nthS (nthS (nthS (nthS (nthS (nthS (nthS (nthS (nthS (nthS (nthS (nthS (nthS (nthS (nth0))))))))))))))))))) rfl (by kernel_rfl) (by kernel_rfl) (by kernel_rfl) (l' := #[true, true, true, true, true, true, true, true, true, true, true, true, true, true, true, true, true, true, true]) rfl rfl ?_; intro K hK; go_big_quiet_op; go_big_quiet_on
      refine anyR_end (by kernel_rfl) ?_
      have hB6 : Below M W1 w6 := (hB4d.trans (hb5.mono (HW.out _ hB4d).2)).trans (hb6.mono (HW.out _ hB4d).2)
      cases Z
      all_goals try (cases hXZ; done)
      all_goals
        go_wp2_with fail
        go_ret
        exact ⟨rfl, by rw [← HN.out]; exact (HW.out _ hB6).1⟩
theorem u8_wf {u : Int} (h : (Lit.int .u8 u).wf = true) : 0 ≤ u ∧ u < 256 := by
  simp only [Lit.wf, IntKind.min, IntKind.max, Bool.and_eq_true, decide_eq_true_eq] at h
  exact ⟨by simpa [IntKind.signed] using h.1, by have := h.2; simp [IntKind.signed, IntKind.bits] at this; omega⟩
end Go.Proofs.YtddekdlbkedaiaaDoor
