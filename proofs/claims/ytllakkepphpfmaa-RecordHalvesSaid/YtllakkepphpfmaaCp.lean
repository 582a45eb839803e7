/- Walks: cp of the law; Few of the reference. -/
import Derived.Test.YtllakkepphpfmaaClone
import Derived.Test.YtllakkepphpfmaaMixR
namespace Go.Proofs.Ytllakkepphpfmaa
open Go.RowKit
open Rc

theorem few_any (r : Rec) (A D : Option Addr) (ca cd : Nat) (w : World) (hl1 : r.al.length ≤ 9223372036854775807) (hl2 : r.dl.length ≤ 9223372036854775807) :
    Calls Try.prog 15 #[.agg #[.int .i64 r.slots, .slice A r.al.length ca, .slice D r.dl.length cd]] w fun e w' => e = .returned (.bool (decide (r.al.length ≤ 150) && decide (r.dl.length ≤ 100))) ∧ Below w.heap.size w w' := by
  obtain ⟨slots, al, dl⟩ := r
  dsimp only at *
  obtain ⟨na, hna⟩ : ∃ n, n = al.length := ⟨_, rfl⟩
  obtain ⟨nd, hnd⟩ : ∃ n, n = dl.length := ⟨_, rfl⟩
  rw [← hna, ← hnd]
  clear hna hnd
  by_cases h1 : na ≤ 150
  · by_cases h2 : nd ≤ 100
    · have d1 : decide (na ≤ 150) = true := by simpa using h1
      have d2 : decide (nd ≤ 100) = true := by simpa using h2
      rw [d1, d2]
      go_enter Try.func15, Try.ntmps15
      go_wp2_with fail
      go_ret
      exact ⟨ret_bool (by simp; omega), (Below.refl _ _).alloc (Nat.le_refl _) _⟩
    · have d1 : decide (na ≤ 150) = true := by simpa using h1
      have d2 : decide (nd ≤ 100) = false := by simpa using h2
      rw [d1, d2]
      go_enter Try.func15, Try.ntmps15
      go_wp2_with fail
      go_ret
      exact ⟨ret_bool (by simp; omega), (Below.refl _ _).alloc (Nat.le_refl _) _⟩
  · have d1 : decide (na ≤ 150) = false := by simpa using h1
    rw [d1]
    go_enter Try.func15, Try.ntmps15
    go_wp2_with fail
    go_ret
    exact ⟨ret_bool (by simp), (Below.refl _ _).alloc (Nat.le_refl _) _⟩

/-- A copy of a record, in memory of its own. -/
def CpRes (r : Rec) (w : World) (e : Ending) (w' : World) : Prop :=
  Below w.heap.size w w' ∧ ∃ A D ca cd, e = .returned (.agg #[.int .i64 r.slots, .slice A r.al.length ca, .slice D r.dl.length cd]) ∧
    w'.ownsRow w.heap.size 45 8 (.slice A r.al.length ca) r.al.length (flatA r.al) ∧ w'.ownsRow w.heap.size 62 3 (.slice D r.dl.length cd) r.dl.length (flatD r.dl)

set_option maxRecDepth 100000 in
set_option maxHeartbeats 8000000 in
theorem cp_any (r : Rec) (A D : Option Addr) (ca cd : Nat) (w : World) (hA : LiesA w w.heap.size A r.al) (hD : LiesD w w.heap.size D r.dl) (hl1 : r.al.length ≤ 1000000) (hl2 : r.dl.length ≤ 1000000) (hnA : A = none → r.al = []) (hnD : D = none → r.dl = []) :
    Calls Try.prog 16 #[.agg #[.int .i64 r.slots, .slice A r.al.length ca, .slice D r.dl.length cd]] w (CpRes r w) := by
  obtain ⟨slots, al, dl⟩ := r
  dsimp only at *
  go_enter Try.func16, Try.ntmps16
  go_wp2_with fail
  generalize hW0 : World.alloc _ _ = W0
  have bR : Blk W0 w.heap.size 28 [.int .i64 slots, .slice A al.length ca, .slice D dl.length cd] := by rw [← hW0]; exact (Blk.new' _ [.int .i64 slots, .slice A al.length ca, .slice D dl.length cd] rfl).alloc _
  have bO : Blk W0 (w.heap.size + 1) 28 [.int .i64 0, .slice none 0 0, .slice none 0 0] := by rw [← hW0]; exact Blk.new' _ [.int .i64 0, .slice none 0 0, .slice none 0 0] (by simp)
  have hb0 : Below w.heap.size w W0 := by rw [← hW0]; exact ((Below.refl _ _).alloc (Nat.le_refl _) _).alloc (by simp) _
  clear hW0
  obtain ⟨N, hN⟩ : ∃ N, N = w.heap.size := ⟨_, rfl⟩
  rw [← hN] at bR bO hb0 hA hD ⊢
  obtain ⟨M, hM⟩ : ∃ M, M = W0.heap.size := ⟨_, rfl⟩
  have hNM : N < M := by rw [hM]; exact bR.lt
  have hNM' : N + 1 < M := by rw [hM]; exact bO.lt
  have LA : Hid (∀ W, Below M W0 W → LiesA W W.heap.size A al) := Lib.hid fun W h => ((hA.below hb0).below_le h (by omega)).more (by have := h.size; omega)
  have LD : Hid (∀ W, Below M W0 W → LiesD W W.heap.size D dl) := Lib.hid fun W h => ((hD.below hb0).below_le h (by omega)).more (by have := h.size; omega)
  have HN := Lib.hid hN
  have HM := Lib.hid hM
  clear hN hA hD
  have x2 : ∀ (x : ExtW W0.heap.size W0.drew) (i : Nat), x.val.cell? ⟨N, i, none⟩ = _ := (bR.row.drew).ext (by rw [← hM]; exact hNM)
  clear hM
  refine wp_region_rough (W0.heap.size) 14 [10, 13] #[false, false, false, false, false, false, false, false, false, false, false, false, false, false] (by kernel_rfl) rfl rfl ?_
  refine anyR_take0 0 _ (nth0) rfl (by kernel_rfl) (by kernel_rfl) (by kernel_rfl) (l' := #[true, false, false, false, false, false, false, false, false, false, false, false, false, false]) rfl rfl ?_; intro K hK; go_big_quiet_op; go_big_quiet_on
  refine anyR_take0 1 _ (nthS (nth0)) rfl (by kernel_rfl) (by kernel_rfl) (by kernel_rfl) (l' := #[true, true, false, false, false, false, false, false, false, false, false, false, false, false]) rfl rfl ?_; intro K hK; go_big_quiet_op; go_big_quiet_on
  refine anyR_take 2 _ (nthS (nthS (nth0))) rfl (by kernel_rfl) (by kernel_rfl) (by kernel_rfl) (by kernel_rfl) (l' := #[true, true, true, false, false, false, false, false, false, false, false, false, false, false]) rfl rfl ?_; intro K hK; go_big_quiet_op; go_big_quiet_on
  refine anyR_take0 4 _ (nthS (nthS (nthS (nthS (nth0))))) rfl (by kernel_rfl) (by kernel_rfl) (by kernel_rfl) (l' := #[true, true, true, false, true, false, false, false, false, false, false, false, false, false]) rfl rfl ?_; intro K hK; go_big_quiet_op; go_big_quiet_on
  refine anyR_take0 5 _ (nthS (nthS (nthS (nthS (nthS (nth0)))))) rfl (by kernel_rfl) (by kernel_rfl) (by kernel_rfl) (l' := #[true, true, true, false, true, true, false, false, false, false, false, false, false, false]) rfl rfl ?_; intro K hK; go_big_quiet_op; go_big_quiet_on
  refine anyR_take 6 _ (nthS (nthS (nthS (nthS (nthS (nthS (nth0))))))) rfl (by kernel_rfl) (by kernel_rfl) (by kernel_rfl) (by kernel_rfl) (l' := #[true, true, true, false, true, true, true, false, false, false, false, false, false, false]) rfl rfl ?_; intro K hK; go_big_quiet_op; go_big_quiet_on
  refine anyR_one 3 _ (nthS (nthS (nthS (nth0)))) (by kernel_rfl) (l' := #[true, true, true, true, true, true, true, false, false, false, false, false, false, false]) rfl ?_
  clear x2
  go_wp2_with fail
  refine (cloneA_any al A ca _ (LA.out _ (Below.refl _ _).drew) hl1 hnA).mono ?_
  rintro e w1 ⟨hb1, v1, rfl, ho1⟩
  rw [show W0.drew.heap.size = M from HM.out.symm] at hb1 ho1
  have hz1 : M ≤ w1.heap.size := by have := hb1.size; have := HM.out; simp at *; omega
  go_wp2_with fail
  refine OneR_mk (by rw [← HM.out]; exact hb1) ?_
  refine anyR_take0 8 _ (nthS (nthS (nthS (nthS (nthS (nthS (nthS (nthS (nth0))))))))) rfl (by kernel_rfl) (by kernel_rfl) (by kernel_rfl) (l' := #[true, true, true, true, true, true, true, false, true, false, false, false, false, false]) rfl rfl ?_; intro K hK; go_big_quiet_op; go_big_quiet_on
  refine anyR_take0 9 _ (nthS (nthS (nthS (nthS (nthS (nthS (nthS (nthS (nthS (nth0)))))))))) rfl (by kernel_rfl) (by kernel_rfl) (by kernel_rfl) (l' := #[true, true, true, true, true, true, true, false, true, true, false, false, false, false]) rfl rfl ?_; intro K hK; go_big_quiet_op; go_big_quiet_on
  refine anyR_one 7 _ (nthS (nthS (nthS (nthS (nthS (nthS (nthS (nth0)))))))) (by kernel_rfl) (l' := #[true, true, true, true, true, true, true, true, true, true, false, false, false, false]) rfl ?_
  go_wp2_with fail
  refine (cloneD_any dl D cd _ (LD.out _ ((Below.refl _ _).drew.trans hb1)) hl2 hnD).mono ?_
  rintro e w2 ⟨hb2, v2, rfl, ho2⟩
  go_wp2_with fail
  refine OneR_mk (hb2.mono (by rw [← HM.out]; exact hz1)) ?_
  refine anyR_one 10 _ (nthS (nthS (nthS (nthS (nthS (nthS (nthS (nthS (nthS (nthS (nth0))))))))))) (by kernel_rfl) (l' := #[true, true, true, true, true, true, true, true, true, true, true, false, false, false]) rfl ?_
  have hbM : Below M W0 w2 := ((Below.refl _ _).drew.trans hb1).trans (hb2.mono hz1)
  have b2 := bR.below hbM hNM
  have c2 := b2.row
  have f2 := b2.frozen
  unfold Row at c2
  obtain ⟨A1, k1, hv1⟩ := own_form ho1
  obtain ⟨D1, k2, hv2⟩ := own_form ho2
  subst hv1 hv2
  go_wp2_with fail
  refine OneR_rough (by kernel_rfl) ((Below.refl _ _).setCell (Nat.zero_le _) _) ?_
  refine anyR_take0 11 _ (nthS (nthS (nthS (nthS (nthS (nthS (nthS (nthS (nthS (nthS (nthS (nth0)))))))))))) rfl (by kernel_rfl) (by kernel_rfl) (by kernel_rfl) (l' := #[true, true, true, true, true, true, true, true, true, true, true, true, false, false]) rfl rfl ?_; intro K hK; go_big_quiet_op; go_big_quiet_on
  refine anyR_take0 12 _ (nthS (nthS (nthS (nthS (nthS (nthS (nthS (nthS (nthS (nthS (nthS (nthS (nth0))))))))))))) rfl (by kernel_rfl) (by kernel_rfl) (by kernel_rfl) (l' := #[true, true, true, true, true, true, true, true, true, true, true, true, true, false]) rfl rfl ?_; intro K hK; go_big_quiet_op; go_big_quiet_on
  refine anyR_one 13 _ (nthS (nthS (nthS (nthS (nthS (nthS (nthS (nthS (nthS (nthS (nthS (nthS (nthS (nth0)))))))))))))) (by kernel_rfl) (l' := #[true, true, true, true, true, true, true, true, true, true, true, true, true, true]) rfl ?_
  have b3 := b2.set_ 1 (.slice A1 al.length k1)
  have c3 := b3.row
  have f3 := b3.frozen
  clear c2 f2
  unfold Row at c3
  simp only [List.set_cons_zero, List.set_cons_succ] at c3
  go_wp2_with fail
  refine OneR_rough (by kernel_rfl) ((Below.refl _ _).setCell (Nat.zero_le _) _) ?_
  refine anyR_end (by kernel_rfl) ?_
  have b4 := b3.set_ 2 (.slice D1 dl.length k2)
  have bO4 := ((bO.below hbM hNM').far (p := ⟨N, 1, none⟩) (by dsimp only; omega) (.slice A1 al.length k1)).far (p := ⟨N, 2, none⟩) (by dsimp only; omega) (.slice D1 dl.length k2)
  have far4 : ∀ g t cs, g ≠ N → g ≠ N + 1 → Blk w2 g t cs → Blk ((((w2.setCell ⟨N, 1, none⟩ (.slice A1 al.length k1)).setCell ⟨N, 2, none⟩ (.slice D1 dl.length k2)).setCell ⟨N + 1, 0, none⟩ (.int .i64 slots)).setCell ⟨N + 1, 1, none⟩ (.slice A1 al.length k1) |>.setCell ⟨N + 1, 2, none⟩ (.slice D1 dl.length k2)) g t cs := fun g t cs h1 h2 h => ((((h.far (p := ⟨N, 1, none⟩) h1 _).far (p := ⟨N, 2, none⟩) h1 _).far (p := ⟨N + 1, 0, none⟩) h2 _).far (p := ⟨N + 1, 1, none⟩) h2 _).far (p := ⟨N + 1, 2, none⟩) h2 _
  have O1 := Lib.hid (own_weak (own_kept ho1 fun g cs hg h => far4 g _ cs (by have := (ho1.lt g hg).1; omega) (by have := (ho1.lt g hg).1; omega) (h.below hb2 h.lt)) (Nat.le_of_lt hNM))
  have O2 := Lib.hid (own_weak (own_kept ho2 fun g cs hg h => far4 g _ cs (by have := (ho2.lt g hg).1; omega) (by have := (ho2.lt g hg).1; omega) h) (show N ≤ w1.heap.size by omega))
  have HW := Lib.hid (((((hb0.trans (hbM.mono (Nat.le_of_lt hNM))).setCell (p := ⟨N, 1, none⟩) (Nat.le_refl _) (.slice A1 al.length k1)).setCell (p := ⟨N, 2, none⟩) (Nat.le_refl _) (.slice D1 dl.length k2)).setCell (p := ⟨N + 1, 0, none⟩) (by dsimp only; omega) (.int .i64 slots)).setCell (p := ⟨N + 1, 1, none⟩) (by dsimp only; omega) (.slice A1 al.length k1) |>.setCell (p := ⟨N + 1, 2, none⟩) (by dsimp only; omega) (.slice D1 dl.length k2))
  have C7 := Lib.hid (((bO4.set_ 0 (.int .i64 slots)).set_ 1 (.slice A1 al.length k1)).set_ 2 (.slice D1 dl.length k2)).row
  have c4 := b4.row
  have cO4 := bO4.row
  have fO4 := bO4.frozen
  unfold Row at c4 cO4
  simp only [List.set_cons_zero, List.set_cons_succ] at c4
  have hne : ¬ N = N + 1 := by omega
  have hne2 : ¬ N + 1 = N := by omega
  clear c3 f3 b4 b3 b2 bO4 far4 ho1 ho2
  go_wp2_with fail
  have c7 := C7.out
  unfold Row at c7
  simp only [List.set_cons_zero, List.set_cons_succ] at c7
  refine bodyPost_ret (v := .agg #[.int .i64 slots, .slice A1 al.length k1, .slice D1 dl.length k2]) (by simp [results, Try.results16, go_sem, c7]) rfl ?_
  exact ⟨by rw [← HN.out]; exact HW.out, A1, D1, k1, k2, rfl, by rw [← HN.out]; exact O1.out, by rw [← HN.out]; exact O2.out⟩

end Go.Proofs.Ytllakkepphpfmaa
