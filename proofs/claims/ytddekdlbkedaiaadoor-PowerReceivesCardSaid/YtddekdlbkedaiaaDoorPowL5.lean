/- The walk of PowerReceives. -/
import Derived.Test.YtddekdlbkedaiaaDoorPowL4
import Derived.Test.YtddekdlbkedaiaaDoorMixR
import Derived.Test.YtddekdlbkedaiaaDoorOwn
namespace Go.Proofs.YtddekdlbkedaiaaDoor
open Go.RowKit

set_option maxRecDepth 100000 in
set_option maxHeartbeats 4000000 in
theorem powerReceives_walk (s t n : Int) (l : List Int) (A : Option Addr) (c : Nat) (u : Int) (w : World) (hA : LiesI w w.heap.size A l) (hm : l.length ≤ maxLen) (hnA : A = none → l = []) :
    Calls Tryd.prog 7 #[.agg #[.int .i64 s, .int .i64 t, .int .i64 n, .slice A l.length c], .int .i64 u] w fun e w' => e = .returned (.bool true) ∧ Below w.heap.size w w' := by
  have HnA := Lib.hid hnA
  have HMX := Lib.hid hm
  unfold maxLen at hm
  clear hnA
  go_enter Tryd.func7, Tryd.ntmps7
  go_wp2_with fail
  generalize hW1 : World.alloc _ _ = W1
  have bR : Blk W1 w.heap.size 35 [.int .i64 s, .int .i64 t, .int .i64 n, .slice A l.length c] := by rw [← hW1]; exact Blk.new2 _ [.int .i64 s, .int .i64 t, .int .i64 n, .slice A l.length c] rfl
  have hb1 : Below w.heap.size w W1 := by rw [← hW1]; exact (Below.refl _ _).alloc (Nat.le_refl _) _
  clear hW1
  obtain ⟨N, hN⟩ : ∃ N, N = w.heap.size := ⟨_, rfl⟩
  rw [← hN] at bR hb1 hA ⊢
  obtain ⟨M, hM⟩ : ∃ M, M = W1.heap.size := ⟨_, rfl⟩
  have hNM : N < M := by rw [hM]; exact bR.lt
  have LA : Hid (∀ W, Below M W1 W → LiesI W W.heap.size A l) := Lib.hid fun W h => ((hA.below hb1).below_le h (by omega)).more (by have := h.size; omega)
  have HRow : Hid (∀ W, Below M W1 W → Row W N [.int .i64 s, .int .i64 t, .int .i64 n, .slice A l.length c]) := Lib.hid fun W h => (bR.below h hNM).row
  have HW : Hid (∀ W, Below M W1 W → Below N w W ∧ M ≤ W.heap.size) := Lib.hid fun W h => ⟨hb1.trans (h.mono (by omega)), by have := h.size; omega⟩
  have HN := Lib.hid hN
  clear hN hA bR hb1
  refine (awake_any W1).mono ?_
  rintro e w2 ⟨rfl, hb2⟩
  rw [← hM] at hb2
  have HM := Lib.hid hM
  clear hM
  have r2 := HRow.out _ hb2
  unfold Row at r2
  by_cases hmost : l.length ≤ 100
  case neg =>
    have h1 : 100 < l.length := by omega
    go_wp2_with fail
    go_ret
    exact ⟨rfl, by rw [← HN.out]; exact (HW.out _ hb2).1⟩
  have h1 : decide (100 < l.length) = false := decide_eq_false (by omega)
  have hl : l.length ≤ 1000000 := by omega
  go_wp2_with fail
  refine (cloneI_any l A c w2 (LA.out _ hb2) hl HnA.out).mono ?_
  rintro e w3 ⟨hb3, v3, rfl, ho3⟩
  obtain ⟨A3, c3, rfl, l3⟩ := own_liesI ho3
  have hB3 : Below M W1 w3 := hb2.trans (hb3.mono (HW.out _ hb2).2)
  clear ho3
  have r3 := HRow.out _ hB3
  unfold Row at r3
  clear r2
  go_wp2_with fail
  refine (Sum_walk l A3 c3 w3 l3 HMX.out).mono ?_
  rintro e w3x ⟨rfl, rfl⟩
  go_wp2_with fail
  refine (rSum_walk l A c w3 (LA.out _ hB3) HMX.out).mono ?_
  rintro e w3x ⟨rfl, rfl⟩
  go_wp2_with fail
  clear l3 hb3
  have hB3d : Below M W1 w3.drew := hB3.drew
  have hN3 : N < w3.heap.size := by have := (HW.out _ hB3).2; omega
  have xx : ∀ (x : ExtW w3.heap.size w3.drew) (i : Nat), x.val.cell? ⟨N, i, none⟩ = _ := (HRow.out _ hB3d).ext hN3
  refine wp_region_rough (w3.heap.size) 15 [] #[false, false, false, false, false, false, false, false, false, false, false, false, false, false, false] (by kernel_rfl) rfl rfl ?_
  refine anyR_take0 0 _ (nth0) rfl (by kernel_rfl) (by kernel_rfl) (by kernel_rfl) (l' := #[true, false, false, false, false, false, false, false, false, false, false, false, false, false, false]) rfl rfl ?_; intro K hK; go_big_quiet_op; go_big_quiet_on
  refine anyR_take 1 _ (nthS (nth0)) rfl (by kernel_rfl) (by kernel_rfl) (by kernel_rfl) (by kernel_rfl) (l' := #[true, true, false, false, false, false, false, false, false, false, false, false, false, false, false]) rfl rfl ?_; intro K hK; go_big_quiet_op; go_big_quiet_on
  refine anyR_take0 2 _ (nthS (nthS (nth0))) rfl (by kernel_rfl) (by kernel_rfl) (by kernel_rfl) (l' := #[true, true, true, false, false, false, false, false, false, false, false, false, false, false, false]) rfl rfl ?_; intro K hK; go_big_quiet_op; go_big_quiet_on
  refine anyR_take 3 _ (nthS (nthS (nthS (nth0)))) rfl (by kernel_rfl) (by kernel_rfl) (by kernel_rfl) (by kernel_rfl) (l' := #[true, true, true, true, false, false, false, false, false, false, false, false, false, false, false]) rfl rfl ?_; intro K hK; go_big_quiet_op; go_big_quiet_on
  refine anyR_take0 4 _ (nthS (nthS (nthS (nthS (nth0))))) rfl (by kernel_rfl) (by kernel_rfl) (by kernel_rfl) (l' := #[true, true, true, true, true, false, false, false, false, false, false, false, false, false, false]) rfl rfl ?_; intro K hK; go_big_quiet_op; go_big_quiet_on
  refine anyR_take 5 _ (nthS (nthS (nthS (nthS (nthS (nth0)))))) rfl (by kernel_rfl) (by kernel_rfl) (by kernel_rfl) (by kernel_rfl) (l' := #[true, true, true, true, true, true, false, false, false, false, false, false, false, false, false]) rfl rfl ?_; intro K hK; go_big_quiet_op; go_big_quiet_on
  refine anyR_take0 6 _ (nthS (nthS (nthS (nthS (nthS (nthS (nth0))))))) rfl (by kernel_rfl) (by kernel_rfl) (by kernel_rfl) (l' := #[true, true, true, true, true, true, true, false, false, false, false, false, false, false, false]) rfl rfl ?_; intro K hK; go_big_quiet_op; go_big_quiet_on
  refine anyR_take 7 _ (nthS (nthS (nthS (nthS (nthS (nthS (nthS (nth0)))))))) rfl (by kernel_rfl) (by kernel_rfl) (by kernel_rfl) (by kernel_rfl) (l' := #[true, true, true, true, true, true, true, true, false, false, false, false, false, false, false]) rfl rfl ?_; intro K hK; go_big_quiet_op; go_big_quiet_on
  refine anyR_one 8 _ (nthS (nthS (nthS (nthS (nthS (nthS (nthS (nthS (nth0))))))))) (by kernel_rfl) (l' := #[true, true, true, true, true, true, true, true, true, false, false, false, false, false, false]) rfl ?_
  clear xx
  go_wp2_with fail
  refine (cloneI_any l A c _ (LA.out _ hB3d) hl HnA.out).mono ?_
  rintro e w4 ⟨hb4, v4, rfl, ho4⟩
  obtain ⟨A4, c4, rfl, l4⟩ := own_liesI ho4
  have hB4 : Below M W1 w4 := hB3d.trans (hb4.mono (HW.out _ hB3d).2)
  clear ho4
  go_wp2_with fail
  refine OneR_mk (hb4) ?_
  refine anyR_one 9 _ (nthS (nthS (nthS (nthS (nthS (nthS (nthS (nthS (nthS (nth0)))))))))) (by kernel_rfl) (l' := #[true, true, true, true, true, true, true, true, true, true, false, false, false, false, false]) rfl ?_
  go_wp2_with fail
  refine (Received_walk s t n l A4 c4 _ l4 HMX.out).mono ?_
  rintro e w4x ⟨rfl, rfl⟩
  go_wp2_with fail
  refine OneR_mk (Below.refl _ _) ?_
  refine anyR_take0 10 _ (nthS (nthS (nthS (nthS (nthS (nthS (nthS (nthS (nthS (nthS (nth0))))))))))) rfl (by kernel_rfl) (by kernel_rfl) (by kernel_rfl) (l' := #[true, true, true, true, true, true, true, true, true, true, true, false, false, false, false]) rfl rfl ?_; intro K hK; go_big_quiet_op; go_big_quiet_on
  refine anyR_take0 11 _ (nthS (nthS (nthS (nthS (nthS (nthS (nthS (nthS (nthS (nthS (nthS (nth0)))))))))))) rfl (by kernel_rfl) (by kernel_rfl) (by kernel_rfl) (l' := #[true, true, true, true, true, true, true, true, true, true, true, true, false, false, false]) rfl rfl ?_; intro K hK; go_big_quiet_op; go_big_quiet_on
  refine anyR_take0 12 _ (nthS (nthS (nthS (nthS (nthS (nthS (nthS (nthS (nthS (nthS (nthS (nthS (nth0))))))))))))) rfl (by kernel_rfl) (by kernel_rfl) (by kernel_rfl) (l' := #[true, true, true, true, true, true, true, true, true, true, true, true, true, false, false]) rfl rfl ?_; intro K hK; go_big_quiet_op; go_big_quiet_on
  refine anyR_take0 13 _ (nthS (nthS (nthS (nthS (nthS (nthS (nthS (nthS (nthS (nthS (nthS (nthS (nthS (nth0)))))))))))))) rfl (by kernel_rfl) (by kernel_rfl) (by kernel_rfl) (l' := #[true, true, true, true, true, true, true, true, true, true, true, true, true, true, false]) rfl rfl ?_; intro K hK; go_big_quiet_op; go_big_quiet_on
  refine anyR_take0 14 _ (nthS (nthS (nthS (nthS (nthS (nthS (nthS (nthS (nthS (nthS (nthS (nthS (nthS (nthS (nth0))))))))))))))) rfl (by kernel_rfl) (by kernel_rfl) (by kernel_rfl) (l' := #[true, true, true, true, true, true, true, true, true, true, true, true, true, true, true]) rfl rfl ?_; intro K hK; go_big_quiet_op; go_big_quiet_on
  refine anyR_end (by kernel_rfl) ?_
  have r4 := HRow.out _ hB4
  unfold Row at r4
  clear r3
  go_wp2_with fail
  refine (rReceived_walk s t n l A c w4 (LA.out _ hB4) HMX.out).mono ?_
  rintro e w4x ⟨rfl, rfl⟩
  go_wp2_with (first | (go_at_call 22; (with_reducible refine (Margin_any _ _ _ _).mono ?_); rintro e w' ⟨rfl, rfl⟩) | (go_at_call 23; (with_reducible refine (rMargin_any _ _ _ _).mono ?_); rintro e w' ⟨rfl, rfl⟩) | (go_at_call 24; (with_reducible refine (Least_any _ _ _ _).mono ?_); rintro e w' ⟨rfl, rfl⟩) | (go_at_call 25; (with_reducible refine (rLeast_any _ _ _ _).mono ?_); rintro e w' ⟨rfl, rfl⟩))
  go_ret
  exact ⟨rfl, by rw [← HN.out]; exact (HW.out _ hB4).1⟩
end Go.Proofs.YtddekdlbkedaiaaDoor
