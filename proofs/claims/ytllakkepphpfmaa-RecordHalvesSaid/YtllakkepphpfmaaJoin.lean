/- Walk: Join of package record. -/
import Derived.Test.YtllakkepphpfmaaConcat
import Derived.Test.YtllakkepphpfmaaMixR
namespace Go.Proofs.Ytllakkepphpfmaa
open Go.RowKit
open Rc

def earlyB (a b : Rec) : Bool := decide (b.slots < a.slots) || ((b.al.any fun x => decide (x.s < a.slots)) || (b.dl.any fun x => decide (x.sl < a.slots)))
/-- What Join answers. -/
def joinE (a b : Rec) : Int := if good a then (if good b then (if earlyB a b then 11 else 0) else 1) else 1
def joinR (a b : Rec) : Rec := if good a then (if good b then (if earlyB a b then ⟨0, [], []⟩ else ⟨b.slots, a.al ++ b.al, a.dl ++ b.dl⟩) else ⟨0, [], []⟩) else ⟨0, [], []⟩

set_option maxRecDepth 100000 in
set_option maxHeartbeats 8000000 in
theorem join_any (a b : Rec) (A D A' D' : Option Addr) (ca cd ca' cd' : Nat) (w : World) (hA : LiesA w w.heap.size A a.al) (hD : LiesD w w.heap.size D a.dl) (hA' : LiesA w w.heap.size A' b.al) (hD' : LiesD w w.heap.size D' b.dl) (la : a.al.length ≤ 1000000) (ld : a.dl.length ≤ 1000000) (la' : b.al.length ≤ 1000000) (ld' : b.dl.length ≤ 1000000)
    (nA : A = none → a.al = []) (nD : D = none → a.dl = []) (nA' : A' = none → b.al = []) (nD' : D' = none → b.dl = []) :
    Calls Try.prog 32 #[.agg #[.int .i64 a.slots, .slice A a.al.length ca, .slice D a.dl.length cd], .agg #[.int .i64 b.slots, .slice A' b.al.length ca', .slice D' b.dl.length cd']] w (RecRes w (joinR a b) (joinE a b)) := by
  obtain ⟨R, hR⟩ : ∃ R, R = joinR a b := ⟨_, rfl⟩
  obtain ⟨E, hE⟩ : ∃ E, E = joinE a b := ⟨_, rfl⟩
  rw [← hR, ← hE]
  have HRR := Lib.hid hR
  have HEE := Lib.hid hE
  have HnA := Lib.hid nA
  have HnD := Lib.hid nD
  have HnA' := Lib.hid nA'
  have HnD' := Lib.hid nD'
  clear hR hE nA nD nA' nD'
  go_enter Try.func32, Try.ntmps32
  go_wp2_with fail
  generalize hW0 : World.alloc _ _ = W0
  have bA : Blk W0 w.heap.size 28 [.int .i64 a.slots, .slice A a.al.length ca, .slice D a.dl.length cd] := by rw [← hW0]; exact ((Blk.new' _ [.int .i64 a.slots, .slice A a.al.length ca, .slice D a.dl.length cd] rfl).alloc _).alloc _
  have bB : Blk W0 (w.heap.size + 1) 28 [.int .i64 b.slots, .slice A' b.al.length ca', .slice D' b.dl.length cd'] := by rw [← hW0]; exact (Blk.new' _ [.int .i64 b.slots, .slice A' b.al.length ca', .slice D' b.dl.length cd'] (by simp)).alloc _
  have bO : Blk W0 (w.heap.size + 1 + 1) 28 [.int .i64 0, .slice none 0 0, .slice none 0 0] := by rw [← hW0]; exact Blk.new' _ [.int .i64 0, .slice none 0 0, .slice none 0 0] (by simp)
  have hb0 : Below w.heap.size w W0 := by rw [← hW0]; exact (((Below.refl _ _).alloc (Nat.le_refl _) _).alloc (by simp) _).alloc (by simp; omega) _
  clear hW0
  obtain ⟨N, hN⟩ : ∃ N, N = w.heap.size := ⟨_, rfl⟩
  rw [← hN] at bA bB bO hb0 hA hD hA' hD' ⊢
  obtain ⟨M, hM⟩ : ∃ M, M = W0.heap.size := ⟨_, rfl⟩
  have hRM : N + 1 + 1 < M := by rw [hM]; exact bO.lt
  have HRM : N + 1 + 1 ≤ M := by omega
  have LA : Hid (∀ W, Below M W0 W → LiesA W W.heap.size A a.al ∧ LiesD W W.heap.size D a.dl ∧ LiesA W W.heap.size A' b.al ∧ LiesD W W.heap.size D' b.dl) := Lib.hid fun W h =>
    ⟨((hA.below hb0).below_le h (by omega)).more (by have := h.size; omega), ((hD.below hb0).below_le h (by omega)).more (by have := h.size; omega), ((hA'.below hb0).below_le h (by omega)).more (by have := h.size; omega), ((hD'.below hb0).below_le h (by omega)).more (by have := h.size; omega)⟩
  have HRA : Hid (∀ W, Below M W0 W → Row W N [.int .i64 a.slots, .slice A a.al.length ca, .slice D a.dl.length cd] ∧ Row W (N + 1) [.int .i64 b.slots, .slice A' b.al.length ca', .slice D' b.dl.length cd']) := Lib.hid fun W h => ⟨(bA.below h (by omega)).row, (bB.below h (by omega)).row⟩
  have HW : Hid (∀ W, Below M W0 W → M ≤ W.heap.size) := Lib.hid fun W h => by have := h.size; omega
  have HN := Lib.hid hN
  have HM := Lib.hid hM
  clear hN hA hD hA' hD' bA bB
  refine (check_any a A D ca cd W0 (LA.out _ (Below.refl _ _)).1 (LA.out _ (Below.refl _ _)).2.1 (by omega) (by omega)).mono ?_
  rintro e w1 ⟨rfl, hb1⟩
  rw [← hM] at hb1
  clear hM
  cases hga : good a with
  | false =>
    have HR : Hid (R = ⟨0, [], []⟩ ∧ E = 1) := Lib.hid (by rw [HRR.out, HEE.out]; simp [joinR, joinE, hga])
    rw [show checkE a = 1 by simp [checkE, hga]]
    have bOn := bO.below hb1 hRM
    have hbn := hb1
    clear hga HRR HEE hb1
    have C7 := Lib.hid (((bOn.set_ 0 (.int .i64 0)).set_ 1 (.slice none 0 0)).set_ 2 (.slice none 0 0)).row
    have cO := bOn.row
    have fO := bOn.frozen
    unfold Row at cO
    clear bOn
    go_wp2_with fail
    have c7 := C7.out
    unfold Row at c7
    simp only [List.set_cons_zero, List.set_cons_succ] at c7
    refine bodyPost_ret (v := .tuple #[.agg #[.int .i64 0, .slice none 0 0, .slice none 0 0], .int .i64 1]) (by simp [results, Try.results32, go_sem, c7]) rfl ?_
    rw [HR.out.1, HR.out.2]
    exact ⟨by rw [← HN.out]; exact (((hb0.trans (hbn.mono (by omega))).setCell (p := ⟨N + 1 + 1, 0, none⟩) (by dsimp only; omega) _).setCell (p := ⟨N + 1 + 1, 1, none⟩) (by dsimp only; omega) _).setCell (p := ⟨N + 1 + 1, 2, none⟩) (by dsimp only; omega) _, none, none, 0, 0, rfl, LiesA.nil, LiesD.nil⟩
  | true =>
  rw [show checkE a = 0 by simp [checkE, hga]]
  have r1 := (HRA.out _ hb1).2
  unfold Row at r1
  go_wp2_with fail
  refine (check_any b A' D' ca' cd' w1 (LA.out _ hb1).2.2.1 (LA.out _ hb1).2.2.2 (by omega) (by omega)).mono ?_
  rintro e w2 ⟨rfl, hb2'⟩
  have hb2 : Below M W0 w2 := hb1.trans (hb2'.mono (HW.out _ hb1))
  clear hb1 hb2' r1
  cases hgb : good b with
  | false =>
    have HR : Hid (R = ⟨0, [], []⟩ ∧ E = 1) := Lib.hid (by rw [HRR.out, HEE.out]; simp [joinR, joinE, hga, hgb])
    rw [show checkE b = 1 by simp [checkE, hgb]]
    have bOn := bO.below hb2 hRM
    have hbn := hb2
    clear hga hgb HRR HEE hb2
    have C7 := Lib.hid (((bOn.set_ 0 (.int .i64 0)).set_ 1 (.slice none 0 0)).set_ 2 (.slice none 0 0)).row
    have cO := bOn.row
    have fO := bOn.frozen
    unfold Row at cO
    clear bOn
    go_wp2_with fail
    have c7 := C7.out
    unfold Row at c7
    simp only [List.set_cons_zero, List.set_cons_succ] at c7
    refine bodyPost_ret (v := .tuple #[.agg #[.int .i64 0, .slice none 0 0, .slice none 0 0], .int .i64 1]) (by simp [results, Try.results32, go_sem, c7]) rfl ?_
    rw [HR.out.1, HR.out.2]
    exact ⟨by rw [← HN.out]; exact (((hb0.trans (hbn.mono (by omega))).setCell (p := ⟨N + 1 + 1, 0, none⟩) (by dsimp only; omega) _).setCell (p := ⟨N + 1 + 1, 1, none⟩) (by dsimp only; omega) _).setCell (p := ⟨N + 1 + 1, 2, none⟩) (by dsimp only; omega) _, none, none, 0, 0, rfl, LiesA.nil, LiesD.nil⟩
  | true =>
  rw [show checkE b = 0 by simp [checkE, hgb]]
  obtain ⟨_, _, ga1', ga2', _, _⟩ := good_parts hga
  obtain ⟨_, _, gb1', gb2', _, _⟩ := good_parts hgb
  have ga1 : a.al.length ≤ 100000 := by omega
  have ga2 : a.dl.length ≤ 100000 := by omega
  have gb1 : b.al.length ≤ 100000 := by omega
  have gb2 : b.dl.length ≤ 100000 := by omega
  have HR1 : Hid (earlyB a b = true → R = ⟨0, [], []⟩ ∧ E = 11) := Lib.hid (fun h => by rw [HRR.out, HEE.out]; simp [joinR, joinE, hga, hgb, h])
  have HR2 : Hid (earlyB a b = false → R = ⟨b.slots, a.al ++ b.al, a.dl ++ b.dl⟩ ∧ E = 0) := Lib.hid (fun h => by rw [HRR.out, HEE.out]; simp [joinR, joinE, hga, hgb, h])
  clear hga hgb HRR HEE ga1' ga2' gb1' gb2'
  have r2 := (HRA.out _ hb2).1
  have q2 := (HRA.out _ hb2).2
  unfold Row at r2 q2
  by_cases hs : b.slots < a.slots
  · have HR : Hid (R = ⟨0, [], []⟩ ∧ E = 11) := Lib.hid (HR1.out (by simp [earlyB, hs]))
    have d0 : decide (b.slots < a.slots) = true := by simpa using hs
    have bOn := bO.below hb2 hRM
    have hbn := hb2
    clear HR1 HR2 hb2
    have C7 := Lib.hid (((bOn.set_ 0 (.int .i64 0)).set_ 1 (.slice none 0 0)).set_ 2 (.slice none 0 0)).row
    have cO := bOn.row
    have fO := bOn.frozen
    unfold Row at cO
    clear bOn
    go_wp2_with fail
    have c7 := C7.out
    unfold Row at c7
    simp only [List.set_cons_zero, List.set_cons_succ] at c7
    refine bodyPost_ret (v := .tuple #[.agg #[.int .i64 0, .slice none 0 0, .slice none 0 0], .int .i64 11]) (by simp [results, Try.results32, go_sem, c7]) rfl ?_
    rw [HR.out.1, HR.out.2]
    exact ⟨by rw [← HN.out]; exact (((hb0.trans (hbn.mono (by omega))).setCell (p := ⟨N + 1 + 1, 0, none⟩) (by dsimp only; omega) _).setCell (p := ⟨N + 1 + 1, 1, none⟩) (by dsimp only; omega) _).setCell (p := ⟨N + 1 + 1, 2, none⟩) (by dsimp only; omega) _, none, none, 0, 0, rfl, LiesA.nil, LiesD.nil⟩
  have d0 : decide (b.slots < a.slots) = false := by simpa using hs
  have hN2 : N < w2.heap.size := by have := HW.out _ hb2; omega
  go_wp2_with fail
  refine (containsA_any b.al A' ca' N a.slots _ _ w2 (LA.out _ hb2).2.2.1 la' (HRA.out _ hb2).1 hN2).mono ?_
  rintro e w3 ⟨rfl, hb3'⟩
  have hb3 : Below M W0 w3 := hb2.trans (hb3'.mono (HW.out _ hb2))
  clear r2 q2 hb2 hb3' hN2
  cases hea : (b.al.any fun x => decide (x.s < a.slots)) with
  | true =>
    have HR : Hid (R = ⟨0, [], []⟩ ∧ E = 11) := Lib.hid (HR1.out (by simp only [earlyB, hea]; simp))
    have bOn := bO.below hb3 hRM
    have hbn := hb3
    clear HR1 HR2 hb3 hea
    have C7 := Lib.hid (((bOn.set_ 0 (.int .i64 0)).set_ 1 (.slice none 0 0)).set_ 2 (.slice none 0 0)).row
    have cO := bOn.row
    have fO := bOn.frozen
    unfold Row at cO
    clear bOn
    go_wp2_with fail
    have c7 := C7.out
    unfold Row at c7
    simp only [List.set_cons_zero, List.set_cons_succ] at c7
    refine bodyPost_ret (v := .tuple #[.agg #[.int .i64 0, .slice none 0 0, .slice none 0 0], .int .i64 11]) (by simp [results, Try.results32, go_sem, c7]) rfl ?_
    rw [HR.out.1, HR.out.2]
    exact ⟨by rw [← HN.out]; exact (((hb0.trans (hbn.mono (by omega))).setCell (p := ⟨N + 1 + 1, 0, none⟩) (by dsimp only; omega) _).setCell (p := ⟨N + 1 + 1, 1, none⟩) (by dsimp only; omega) _).setCell (p := ⟨N + 1 + 1, 2, none⟩) (by dsimp only; omega) _, none, none, 0, 0, rfl, LiesA.nil, LiesD.nil⟩
  | false =>
  have q3 := (HRA.out _ hb3).2
  unfold Row at q3
  have hN3 : N < w3.heap.size := by have := HW.out _ hb3; omega
  have HEA := Lib.hid hea
  clear hea
  go_wp2_with fail
  refine (containsD_any b.dl D' cd' N a.slots _ _ w3 (LA.out _ hb3).2.2.2 ld' (HRA.out _ hb3).1 hN3).mono ?_
  rintro e w4 ⟨rfl, hb4'⟩
  have hb4 : Below M W0 w4 := hb3.trans (hb4'.mono (HW.out _ hb3))
  clear q3 hb3 hb4' hN3
  cases hed : (b.dl.any fun x => decide (x.sl < a.slots)) with
  | true =>
    have HR : Hid (R = ⟨0, [], []⟩ ∧ E = 11) := Lib.hid (HR1.out (by simp only [earlyB, hed]; simp))
    have bOn := bO.below hb4 hRM
    have hbn := hb4
    clear HR1 HR2 hb4 hed
    have C7 := Lib.hid (((bOn.set_ 0 (.int .i64 0)).set_ 1 (.slice none 0 0)).set_ 2 (.slice none 0 0)).row
    have cO := bOn.row
    have fO := bOn.frozen
    unfold Row at cO
    clear bOn
    go_wp2_with fail
    have c7 := C7.out
    unfold Row at c7
    simp only [List.set_cons_zero, List.set_cons_succ] at c7
    refine bodyPost_ret (v := .tuple #[.agg #[.int .i64 0, .slice none 0 0, .slice none 0 0], .int .i64 11]) (by simp [results, Try.results32, go_sem, c7]) rfl ?_
    rw [HR.out.1, HR.out.2]
    exact ⟨by rw [← HN.out]; exact (((hb0.trans (hbn.mono (by omega))).setCell (p := ⟨N + 1 + 1, 0, none⟩) (by dsimp only; omega) _).setCell (p := ⟨N + 1 + 1, 1, none⟩) (by dsimp only; omega) _).setCell (p := ⟨N + 1 + 1, 2, none⟩) (by dsimp only; omega) _, none, none, 0, 0, rfl, LiesA.nil, LiesD.nil⟩
  | false =>
  have HR : Hid (R = ⟨b.slots, a.al ++ b.al, a.dl ++ b.dl⟩ ∧ E = 0) := Lib.hid (HR2.out (by simp only [earlyB, HEA.out, hed, d0]; rfl))
  clear HR1 HR2 hed HEA d0 hs
  go_wp2_with fail
  obtain ⟨y0, hy0⟩ : ∃ y0 : World, y0 = w4.drew := ⟨_, rfl⟩
  have B0 : Below M W0 y0 := by rw [hy0]; exact hb4.drew
  have Z0 : M ≤ y0.heap.size := HW.out _ B0
  have xN : ∀ (x : ExtW (N + 1 + 1) y0) (i : Nat), x.val.cell? ⟨N, i, none⟩ = _ := (HRA.out _ B0).1.ext (by omega)
  have xN1 : ∀ (x : ExtW (N + 1 + 1) y0) (i : Nat), x.val.cell? ⟨N + 1, i, none⟩ = _ := (HRA.out _ B0).2.ext (by omega)
  refine wp_region_rough (N + 1 + 1) 22 [] #[false, false, false, false, false, false, false, false, false, false, false, false, false, false, false, false, false, false, false, false, false, false] (by kernel_rfl) rfl rfl ?_
  rw [← hy0]
  clear hy0 hb4
  refine anyR_take0 0 _ (nth0) rfl (by kernel_rfl) (by kernel_rfl) (by kernel_rfl) (l' := #[true, false, false, false, false, false, false, false, false, false, false, false, false, false, false, false, false, false, false, false, false, false]) rfl rfl ?_; intro K hK; go_big_quiet_op; go_big_quiet_on
  refine anyR_take 1 _ (nthS (nth0)) rfl (by kernel_rfl) (by kernel_rfl) (by kernel_rfl) (by kernel_rfl) (l' := #[true, true, false, false, false, false, false, false, false, false, false, false, false, false, false, false, false, false, false, false, false, false]) rfl rfl ?_; intro K hK; go_big_quiet_op; go_big_quiet_on
  refine anyR_take0 2 _ (nthS (nthS (nth0))) rfl (by kernel_rfl) (by kernel_rfl) (by kernel_rfl) (l' := #[true, true, true, false, false, false, false, false, false, false, false, false, false, false, false, false, false, false, false, false, false, false]) rfl rfl ?_; intro K hK; go_big_quiet_op; go_big_quiet_on
  refine anyR_take0 3 _ (nthS (nthS (nthS (nth0)))) rfl (by kernel_rfl) (by kernel_rfl) (by kernel_rfl) (l' := #[true, true, true, true, false, false, false, false, false, false, false, false, false, false, false, false, false, false, false, false, false, false]) rfl rfl ?_; intro K hK; go_big_quiet_op; go_big_quiet_on
  refine anyR_take 4 _ (nthS (nthS (nthS (nthS (nth0))))) rfl (by kernel_rfl) (by kernel_rfl) (by kernel_rfl) (by kernel_rfl) (l' := #[true, true, true, true, true, false, false, false, false, false, false, false, false, false, false, false, false, false, false, false, false, false]) rfl rfl ?_; intro K hK; go_big_quiet_op; go_big_quiet_on
  refine anyR_take0 5 _ (nthS (nthS (nthS (nthS (nthS (nth0)))))) rfl (by kernel_rfl) (by kernel_rfl) (by kernel_rfl) (l' := #[true, true, true, true, true, true, false, false, false, false, false, false, false, false, false, false, false, false, false, false, false, false]) rfl rfl ?_; intro K hK; go_big_quiet_op; go_big_quiet_on
  refine anyR_take0 6 _ (nthS (nthS (nthS (nthS (nthS (nthS (nth0))))))) rfl (by kernel_rfl) (by kernel_rfl) (by kernel_rfl) (l' := #[true, true, true, true, true, true, true, false, false, false, false, false, false, false, false, false, false, false, false, false, false, false]) rfl rfl ?_; intro K hK; go_big_quiet_op; go_big_quiet_on
  refine anyR_take 7 _ (nthS (nthS (nthS (nthS (nthS (nthS (nthS (nth0)))))))) rfl (by kernel_rfl) (by kernel_rfl) (by kernel_rfl) (by kernel_rfl) (l' := #[true, true, true, true, true, true, true, true, false, false, false, false, false, false, false, false, false, false, false, false, false, false]) rfl rfl ?_; intro K hK; go_big_quiet_op; go_big_quiet_on
  refine anyR_take0 10 _ (nthS (nthS (nthS (nthS (nthS (nthS (nthS (nthS (nthS (nthS (nth0))))))))))) rfl (by kernel_rfl) (by kernel_rfl) (by kernel_rfl) (l' := #[true, true, true, true, true, true, true, true, false, false, true, false, false, false, false, false, false, false, false, false, false, false]) rfl rfl ?_; intro K hK; go_big_quiet_op; go_big_quiet_on
  refine anyR_take0 11 _ (nthS (nthS (nthS (nthS (nthS (nthS (nthS (nthS (nthS (nthS (nthS (nth0)))))))))))) rfl (by kernel_rfl) (by kernel_rfl) (by kernel_rfl) (l' := #[true, true, true, true, true, true, true, true, false, false, true, true, false, false, false, false, false, false, false, false, false, false]) rfl rfl ?_; intro K hK; go_big_quiet_op; go_big_quiet_on
  refine anyR_take 12 _ (nthS (nthS (nthS (nthS (nthS (nthS (nthS (nthS (nthS (nthS (nthS (nthS (nth0))))))))))))) rfl (by kernel_rfl) (by kernel_rfl) (by kernel_rfl) (by kernel_rfl) (l' := #[true, true, true, true, true, true, true, true, false, false, true, true, true, false, false, false, false, false, false, false, false, false]) rfl rfl ?_; intro K hK; go_big_quiet_op; go_big_quiet_on
  refine anyR_take0 13 _ (nthS (nthS (nthS (nthS (nthS (nthS (nthS (nthS (nthS (nthS (nthS (nthS (nthS (nth0)))))))))))))) rfl (by kernel_rfl) (by kernel_rfl) (by kernel_rfl) (l' := #[true, true, true, true, true, true, true, true, false, false, true, true, true, true, false, false, false, false, false, false, false, false]) rfl rfl ?_; intro K hK; go_big_quiet_op; go_big_quiet_on
  refine anyR_take0 14 _ (nthS (nthS (nthS (nthS (nthS (nthS (nthS (nthS (nthS (nthS (nthS (nthS (nthS (nthS (nth0))))))))))))))) rfl (by kernel_rfl) (by kernel_rfl) (by kernel_rfl) (l' := #[true, true, true, true, true, true, true, true, false, false, true, true, true, true, true, false, false, false, false, false, false, false]) rfl rfl ?_; intro K hK; go_big_quiet_op; go_big_quiet_on
  refine anyR_take 15 _ (nthS (nthS (nthS (nthS (nthS (nthS (nthS (nthS (nthS (nthS (nthS (nthS (nthS (nthS (nthS (nth0)))))))))))))))) rfl (by kernel_rfl) (by kernel_rfl) (by kernel_rfl) (by kernel_rfl) (l' := #[true, true, true, true, true, true, true, true, false, false, true, true, true, true, true, true, false, false, false, false, false, false]) rfl rfl ?_; intro K hK; go_big_quiet_op; go_big_quiet_on
  refine anyR_two 8 16 _ _ (nthS (nthS (nthS (nthS (nthS (nthS (nthS (nthS (nth0))))))))) (nthS (nthS (nthS (nthS (nthS (nthS (nthS (nthS (nthS (nthS (nthS (nthS (nthS (nthS (nthS (nthS (nth0))))))))))))))))) (by kernel_rfl) (l1 := #[true, true, true, true, true, true, true, true, true, false, true, true, true, true, true, true, false, false, false, false, false, false]) (l2 := #[true, true, true, true, true, true, true, true, false, false, true, true, true, true, true, true, true, false, false, false, false, false]) rfl rfl ?_ ?_
  · clear xN xN1
    go_wp2_with fail
    generalize hS1 : World.alloc _ _ = y1
    have hc1 : Below y0.heap.size y0 y1 := by rw [← hS1]; exact (Below.refl _ _).alloc (Nat.le_refl _) _
    have bS8n : Blk y1 y0.heap.size 23 [.slice A a.al.length ca, .slice A' b.al.length ca'] := by rw [← hS1]; exact Blk.new' _ [.slice A a.al.length ca, .slice A' b.al.length ca'] rfl
    clear hS1
    have bS8 := bS8n
    clear bS8n
    have B1 : Below M W0 y1 := B0.trans (hc1.mono Z0)
    have Z1 : M ≤ y1.heap.size := HW.out _ B1
    refine OneR_mk (hc1.mono (Nat.le_trans HRM Z0)) ?_
    refine anyR_two 9 16 _ _ (nthS (nthS (nthS (nthS (nthS (nthS (nthS (nthS (nthS (nth0)))))))))) (nthS (nthS (nthS (nthS (nthS (nthS (nthS (nthS (nthS (nthS (nthS (nthS (nthS (nthS (nthS (nthS (nth0))))))))))))))))) (by kernel_rfl) (l1 := #[true, true, true, true, true, true, true, true, true, true, true, true, true, true, true, true, false, false, false, false, false, false]) (l2 := #[true, true, true, true, true, true, true, true, true, false, true, true, true, true, true, true, true, false, false, false, false, false]) rfl rfl ?_ ?_
    · go_wp2_with fail
      refine (concatA_any a.al b.al A A' ca ca' _ y1 (LA.out _ B1).1 (LA.out _ B1).2.2.1 ga1 gb1 HnA.out HnA'.out bS8.row bS8.lt).mono ?_
      rintro e y2 ⟨hc2, v9, rfl, o9n⟩
      have o9w := own_weak o9n Z1
      clear o9n
      have bS8 := bS8.below hc2 bS8.lt
      have o9 := o9w
      clear o9w
      have B2 : Below M W0 y2 := B1.trans (hc2.mono Z1)
      have Z2 : M ≤ y2.heap.size := HW.out _ B2
      obtain ⟨P9, k9, hv9⟩ := own_form o9
      subst hv9
      go_wp2_with fail
      refine OneR_mk (hc2.mono (Nat.le_trans HRM Z1)) ?_
      refine anyR_one 16 _ (nthS (nthS (nthS (nthS (nthS (nthS (nthS (nthS (nthS (nthS (nthS (nthS (nthS (nthS (nthS (nthS (nth0))))))))))))))))) (by kernel_rfl) (l' := #[true, true, true, true, true, true, true, true, true, true, true, true, true, true, true, true, true, false, false, false, false, false]) rfl ?_
      go_wp2_with fail
      generalize hS3 : World.alloc _ _ = y3
      have hc3 : Below y2.heap.size y2 y3 := by rw [← hS3]; exact (Below.refl _ _).alloc (Nat.le_refl _) _
      have bS16n : Blk y3 y2.heap.size 24 [.slice D a.dl.length cd, .slice D' b.dl.length cd'] := by rw [← hS3]; exact Blk.new' _ [.slice D a.dl.length cd, .slice D' b.dl.length cd'] rfl
      clear hS3
      have bS8 := bS8.below hc3 bS8.lt
      have o9 := own_kept (w' := y3) o9 fun g cs hg h => h.below hc3 h.lt
      have bS16 := bS16n
      clear bS16n
      have B3 : Below M W0 y3 := B2.trans (hc3.mono Z2)
      have Z3 : M ≤ y3.heap.size := HW.out _ B3
      refine OneR_mk (hc3.mono (Nat.le_trans HRM Z2)) ?_
      refine anyR_one 17 _ (nthS (nthS (nthS (nthS (nthS (nthS (nthS (nthS (nthS (nthS (nthS (nthS (nthS (nthS (nthS (nthS (nthS (nth0)))))))))))))))))) (by kernel_rfl) (l' := #[true, true, true, true, true, true, true, true, true, true, true, true, true, true, true, true, true, true, false, false, false, false]) rfl ?_
      go_wp2_with fail
      refine (concatD_any a.dl b.dl D D' cd cd' _ y3 (LA.out _ B3).2.1 (LA.out _ B3).2.2.2 ga2 gb2 HnD.out HnD'.out bS16.row bS16.lt).mono ?_
      rintro e y4 ⟨hc4, v17, rfl, o17n⟩
      have o17w := own_weak o17n Z3
      clear o17n
      have bS8 := bS8.below hc4 bS8.lt
      have bS16 := bS16.below hc4 bS16.lt
      have o9 := own_kept (w' := y4) o9 fun g cs hg h => h.below hc4 h.lt
      have o17 := o17w
      clear o17w
      have B4 : Below M W0 y4 := B3.trans (hc4.mono Z3)
      have Z4 : M ≤ y4.heap.size := HW.out _ B4
      obtain ⟨P17, k17, hv17⟩ := own_form o17
      subst hv17
      go_wp2_with fail
      refine OneR_mk (hc4.mono (Nat.le_trans HRM Z3)) ?_
      refine anyR_take0 18 _ (nthS (nthS (nthS (nthS (nthS (nthS (nthS (nthS (nthS (nthS (nthS (nthS (nthS (nthS (nthS (nthS (nthS (nthS (nth0))))))))))))))))))) rfl (by kernel_rfl) (by kernel_rfl) (by kernel_rfl) (l' := #[true, true, true, true, true, true, true, true, true, true, true, true, true, true, true, true, true, true, true, false, false, false]) rfl rfl ?_; intro K hK; go_big_quiet_op; go_big_quiet_on
      refine anyR_take0 19 _ (nthS (nthS (nthS (nthS (nthS (nthS (nthS (nthS (nthS (nthS (nthS (nthS (nthS (nthS (nthS (nthS (nthS (nthS (nthS (nth0)))))))))))))))))))) rfl (by kernel_rfl) (by kernel_rfl) (by kernel_rfl) (l' := #[true, true, true, true, true, true, true, true, true, true, true, true, true, true, true, true, true, true, true, true, false, false]) rfl rfl ?_; intro K hK; go_big_quiet_op; go_big_quiet_on
      refine anyR_one 20 _ (nthS (nthS (nthS (nthS (nthS (nthS (nthS (nthS (nthS (nthS (nthS (nthS (nthS (nthS (nthS (nthS (nthS (nthS (nthS (nthS (nth0))))))))))))))))))))) (by kernel_rfl) (l' := #[true, true, true, true, true, true, true, true, true, true, true, true, true, true, true, true, true, true, true, true, true, false]) rfl ?_
      have bO4 := bO.below B4 hRM
      have cO := bO4.row
      have fO := bO4.frozen
      unfold Row at cO
      have O9 := Lib.hid o9
      have O17 := Lib.hid o17
      clear bS8 bS16 o9 o17
      go_wp2_with fail
      refine OneR_mk ((((Below.refl _ _).setCell (p := ⟨N + 1 + 1, 0, none⟩) (Nat.le_refl _) _).setCell (p := ⟨N + 1 + 1, 1, none⟩) (Nat.le_refl _) _).setCell (p := ⟨N + 1 + 1, 2, none⟩) (Nat.le_refl _) _) ?_
      refine anyR_take0 21 _ (nthS (nthS (nthS (nthS (nthS (nthS (nthS (nthS (nthS (nthS (nthS (nthS (nthS (nthS (nthS (nthS (nthS (nthS (nthS (nthS (nthS (nth0)))))))))))))))))))))) rfl (by kernel_rfl) (by kernel_rfl) (by kernel_rfl) (l' := #[true, true, true, true, true, true, true, true, true, true, true, true, true, true, true, true, true, true, true, true, true, true]) rfl rfl ?_; intro K hK; go_big_quiet_op; go_big_quiet_on
      refine anyR_end (by kernel_rfl) ?_
      have C7 := Lib.hid (((bO4.set_ 0 (.int .i64 b.slots)).set_ 1 (.slice P9 (a.al.length + b.al.length) k9)).set_ 2 (.slice P17 (a.dl.length + b.dl.length) k17)).row
      have far : ∀ g t cs, M ≤ g → Blk y4 g t cs → Blk (((y4.setCell ⟨N + 1 + 1, 0, none⟩ (.int .i64 b.slots)).setCell ⟨N + 1 + 1, 1, none⟩ (.slice P9 (a.al.length + b.al.length) k9)).setCell ⟨N + 1 + 1, 2, none⟩ (.slice P17 (a.dl.length + b.dl.length) k17)) g t cs := fun g t cs h1 h => ((h.far (p := ⟨N + 1 + 1, 0, none⟩) (by dsimp only; omega) _).far (p := ⟨N + 1 + 1, 1, none⟩) (by dsimp only; omega) _).far (p := ⟨N + 1 + 1, 2, none⟩) (by dsimp only; omega) _
      have L1 := Lib.hid (own_A (own_kept O9.out fun g cs hg h => far g _ cs (O9.out.lt g hg).1 h))
      have L2 := Lib.hid (own_D (own_kept O17.out fun g cs hg h => far g _ cs (O17.out.lt g hg).1 h))
      have HF := Lib.hid ((((hb0.trans (B4.mono (by omega))).setCell (p := ⟨N + 1 + 1, 0, none⟩) (by dsimp only; omega) (.int .i64 b.slots)).setCell (p := ⟨N + 1 + 1, 1, none⟩) (by dsimp only; omega) (.slice P9 (a.al.length + b.al.length) k9)).setCell (p := ⟨N + 1 + 1, 2, none⟩) (by dsimp only; omega) (.slice P17 (a.dl.length + b.dl.length) k17))
      clear bO4 cO fO far
      go_wp2_with fail
      have c7 := C7.out
      unfold Row at c7
      simp only [List.set_cons_zero, List.set_cons_succ] at c7
      refine bodyPost_ret (v := .tuple #[.agg #[.int .i64 b.slots, .slice P9 (a.al.length + b.al.length) k9, .slice P17 (a.dl.length + b.dl.length) k17], .int .i64 0]) (by simp [results, Try.results32, go_sem, c7]) rfl ?_
      rw [HR.out.1, HR.out.2]
      exact ⟨by rw [← HN.out]; exact HF.out, P9, P17, k9, k17, by simp, L1.out, L2.out⟩
    · go_wp2_with fail
      generalize hS2 : World.alloc _ _ = y2
      have hc2 : Below y1.heap.size y1 y2 := by rw [← hS2]; exact (Below.refl _ _).alloc (Nat.le_refl _) _
      have bS16n : Blk y2 y1.heap.size 24 [.slice D a.dl.length cd, .slice D' b.dl.length cd'] := by rw [← hS2]; exact Blk.new' _ [.slice D a.dl.length cd, .slice D' b.dl.length cd'] rfl
      clear hS2
      have bS8 := bS8.below hc2 bS8.lt
      have bS16 := bS16n
      clear bS16n
      have B2 : Below M W0 y2 := B1.trans (hc2.mono Z1)
      have Z2 : M ≤ y2.heap.size := HW.out _ B2
      refine OneR_mk (hc2.mono (Nat.le_trans HRM Z1)) ?_
      refine anyR_one 9 _ (nthS (nthS (nthS (nthS (nthS (nthS (nthS (nthS (nthS (nth0)))))))))) (by kernel_rfl) (l' := #[true, true, true, true, true, true, true, true, true, true, true, true, true, true, true, true, true, false, false, false, false, false]) rfl ?_
      go_wp2_with fail
      refine (concatA_any a.al b.al A A' ca ca' _ y2 (LA.out _ B2).1 (LA.out _ B2).2.2.1 ga1 gb1 HnA.out HnA'.out bS8.row bS8.lt).mono ?_
      rintro e y3 ⟨hc3, v9, rfl, o9n⟩
      have o9w := own_weak o9n Z2
      clear o9n
      have bS8 := bS8.below hc3 bS8.lt
      have bS16 := bS16.below hc3 bS16.lt
      have o9 := o9w
      clear o9w
      have B3 : Below M W0 y3 := B2.trans (hc3.mono Z2)
      have Z3 : M ≤ y3.heap.size := HW.out _ B3
      obtain ⟨P9, k9, hv9⟩ := own_form o9
      subst hv9
      go_wp2_with fail
      refine OneR_mk (hc3.mono (Nat.le_trans HRM Z2)) ?_
      refine anyR_one 17 _ (nthS (nthS (nthS (nthS (nthS (nthS (nthS (nthS (nthS (nthS (nthS (nthS (nthS (nthS (nthS (nthS (nthS (nth0)))))))))))))))))) (by kernel_rfl) (l' := #[true, true, true, true, true, true, true, true, true, true, true, true, true, true, true, true, true, true, false, false, false, false]) rfl ?_
      go_wp2_with fail
      refine (concatD_any a.dl b.dl D D' cd cd' _ y3 (LA.out _ B3).2.1 (LA.out _ B3).2.2.2 ga2 gb2 HnD.out HnD'.out bS16.row bS16.lt).mono ?_
      rintro e y4 ⟨hc4, v17, rfl, o17n⟩
      have o17w := own_weak o17n Z3
      clear o17n
      have bS8 := bS8.below hc4 bS8.lt
      have bS16 := bS16.below hc4 bS16.lt
      have o9 := own_kept (w' := y4) o9 fun g cs hg h => h.below hc4 h.lt
      have o17 := o17w
      clear o17w
      have B4 : Below M W0 y4 := B3.trans (hc4.mono Z3)
      have Z4 : M ≤ y4.heap.size := HW.out _ B4
      obtain ⟨P17, k17, hv17⟩ := own_form o17
      subst hv17
      go_wp2_with fail
      refine OneR_mk (hc4.mono (Nat.le_trans HRM Z3)) ?_
      refine anyR_take0 18 _ (nthS (nthS (nthS (nthS (nthS (nthS (nthS (nthS (nthS (nthS (nthS (nthS (nthS (nthS (nthS (nthS (nthS (nthS (nth0))))))))))))))))))) rfl (by kernel_rfl) (by kernel_rfl) (by kernel_rfl) (l' := #[true, true, true, true, true, true, true, true, true, true, true, true, true, true, true, true, true, true, true, false, false, false]) rfl rfl ?_; intro K hK; go_big_quiet_op; go_big_quiet_on
      refine anyR_take0 19 _ (nthS (nthS (nthS (nthS (nthS (nthS (nthS (nthS (nthS (nthS (nthS (nthS (nthS (nthS (nthS (nthS (nthS (nthS (nthS (nth0)))))))))))))))))))) rfl (by kernel_rfl) (by kernel_rfl) (by kernel_rfl) (l' := #[true, true, true, true, true, true, true, true, true, true, true, true, true, true, true, true, true, true, true, true, false, false]) rfl rfl ?_; intro K hK; go_big_quiet_op; go_big_quiet_on
      refine anyR_one 20 _ (nthS (nthS (nthS (nthS (nthS (nthS (nthS (nthS (nthS (nthS (nthS (nthS (nthS (nthS (nthS (nthS (nthS (nthS (nthS (nthS (nth0))))))))))))))))))))) (by kernel_rfl) (l' := #[true, true, true, true, true, true, true, true, true, true, true, true, true, true, true, true, true, true, true, true, true, false]) rfl ?_
      have bO4 := bO.below B4 hRM
      have cO := bO4.row
      have fO := bO4.frozen
      unfold Row at cO
      have O9 := Lib.hid o9
      have O17 := Lib.hid o17
      clear bS8 bS16 o9 o17
      go_wp2_with fail
      refine OneR_mk ((((Below.refl _ _).setCell (p := ⟨N + 1 + 1, 0, none⟩) (Nat.le_refl _) _).setCell (p := ⟨N + 1 + 1, 1, none⟩) (Nat.le_refl _) _).setCell (p := ⟨N + 1 + 1, 2, none⟩) (Nat.le_refl _) _) ?_
      refine anyR_take0 21 _ (nthS (nthS (nthS (nthS (nthS (nthS (nthS (nthS (nthS (nthS (nthS (nthS (nthS (nthS (nthS (nthS (nthS (nthS (nthS (nthS (nthS (nth0)))))))))))))))))))))) rfl (by kernel_rfl) (by kernel_rfl) (by kernel_rfl) (l' := #[true, true, true, true, true, true, true, true, true, true, true, true, true, true, true, true, true, true, true, true, true, true]) rfl rfl ?_; intro K hK; go_big_quiet_op; go_big_quiet_on
      refine anyR_end (by kernel_rfl) ?_
      have C7 := Lib.hid (((bO4.set_ 0 (.int .i64 b.slots)).set_ 1 (.slice P9 (a.al.length + b.al.length) k9)).set_ 2 (.slice P17 (a.dl.length + b.dl.length) k17)).row
      have far : ∀ g t cs, M ≤ g → Blk y4 g t cs → Blk (((y4.setCell ⟨N + 1 + 1, 0, none⟩ (.int .i64 b.slots)).setCell ⟨N + 1 + 1, 1, none⟩ (.slice P9 (a.al.length + b.al.length) k9)).setCell ⟨N + 1 + 1, 2, none⟩ (.slice P17 (a.dl.length + b.dl.length) k17)) g t cs := fun g t cs h1 h => ((h.far (p := ⟨N + 1 + 1, 0, none⟩) (by dsimp only; omega) _).far (p := ⟨N + 1 + 1, 1, none⟩) (by dsimp only; omega) _).far (p := ⟨N + 1 + 1, 2, none⟩) (by dsimp only; omega) _
      have L1 := Lib.hid (own_A (own_kept O9.out fun g cs hg h => far g _ cs (O9.out.lt g hg).1 h))
      have L2 := Lib.hid (own_D (own_kept O17.out fun g cs hg h => far g _ cs (O17.out.lt g hg).1 h))
      have HF := Lib.hid ((((hb0.trans (B4.mono (by omega))).setCell (p := ⟨N + 1 + 1, 0, none⟩) (by dsimp only; omega) (.int .i64 b.slots)).setCell (p := ⟨N + 1 + 1, 1, none⟩) (by dsimp only; omega) (.slice P9 (a.al.length + b.al.length) k9)).setCell (p := ⟨N + 1 + 1, 2, none⟩) (by dsimp only; omega) (.slice P17 (a.dl.length + b.dl.length) k17))
      clear bO4 cO fO far
      go_wp2_with fail
      have c7 := C7.out
      unfold Row at c7
      simp only [List.set_cons_zero, List.set_cons_succ] at c7
      refine bodyPost_ret (v := .tuple #[.agg #[.int .i64 b.slots, .slice P9 (a.al.length + b.al.length) k9, .slice P17 (a.dl.length + b.dl.length) k17], .int .i64 0]) (by simp [results, Try.results32, go_sem, c7]) rfl ?_
      rw [HR.out.1, HR.out.2]
      exact ⟨by rw [← HN.out]; exact HF.out, P9, P17, k9, k17, by simp, L1.out, L2.out⟩
  · clear xN xN1
    go_wp2_with fail
    generalize hS1 : World.alloc _ _ = y1
    have hc1 : Below y0.heap.size y0 y1 := by rw [← hS1]; exact (Below.refl _ _).alloc (Nat.le_refl _) _
    have bS16n : Blk y1 y0.heap.size 24 [.slice D a.dl.length cd, .slice D' b.dl.length cd'] := by rw [← hS1]; exact Blk.new' _ [.slice D a.dl.length cd, .slice D' b.dl.length cd'] rfl
    clear hS1
    have bS16 := bS16n
    clear bS16n
    have B1 : Below M W0 y1 := B0.trans (hc1.mono Z0)
    have Z1 : M ≤ y1.heap.size := HW.out _ B1
    refine OneR_mk (hc1.mono (Nat.le_trans HRM Z0)) ?_
    refine anyR_one 8 _ (nthS (nthS (nthS (nthS (nthS (nthS (nthS (nthS (nth0))))))))) (by kernel_rfl) (l' := #[true, true, true, true, true, true, true, true, true, false, true, true, true, true, true, true, true, false, false, false, false, false]) rfl ?_
    go_wp2_with fail
    generalize hS2 : World.alloc _ _ = y2
    have hc2 : Below y1.heap.size y1 y2 := by rw [← hS2]; exact (Below.refl _ _).alloc (Nat.le_refl _) _
    have bS8n : Blk y2 y1.heap.size 23 [.slice A a.al.length ca, .slice A' b.al.length ca'] := by rw [← hS2]; exact Blk.new' _ [.slice A a.al.length ca, .slice A' b.al.length ca'] rfl
    clear hS2
    have bS16 := bS16.below hc2 bS16.lt
    have bS8 := bS8n
    clear bS8n
    have B2 : Below M W0 y2 := B1.trans (hc2.mono Z1)
    have Z2 : M ≤ y2.heap.size := HW.out _ B2
    refine OneR_mk (hc2.mono (Nat.le_trans HRM Z1)) ?_
    refine anyR_one 9 _ (nthS (nthS (nthS (nthS (nthS (nthS (nthS (nthS (nthS (nth0)))))))))) (by kernel_rfl) (l' := #[true, true, true, true, true, true, true, true, true, true, true, true, true, true, true, true, true, false, false, false, false, false]) rfl ?_
    go_wp2_with fail
    refine (concatA_any a.al b.al A A' ca ca' _ y2 (LA.out _ B2).1 (LA.out _ B2).2.2.1 ga1 gb1 HnA.out HnA'.out bS8.row bS8.lt).mono ?_
    rintro e y3 ⟨hc3, v9, rfl, o9n⟩
    have o9w := own_weak o9n Z2
    clear o9n
    have bS8 := bS8.below hc3 bS8.lt
    have bS16 := bS16.below hc3 bS16.lt
    have o9 := o9w
    clear o9w
    have B3 : Below M W0 y3 := B2.trans (hc3.mono Z2)
    have Z3 : M ≤ y3.heap.size := HW.out _ B3
    obtain ⟨P9, k9, hv9⟩ := own_form o9
    subst hv9
    go_wp2_with fail
    refine OneR_mk (hc3.mono (Nat.le_trans HRM Z2)) ?_
    refine anyR_one 17 _ (nthS (nthS (nthS (nthS (nthS (nthS (nthS (nthS (nthS (nthS (nthS (nthS (nthS (nthS (nthS (nthS (nthS (nth0)))))))))))))))))) (by kernel_rfl) (l' := #[true, true, true, true, true, true, true, true, true, true, true, true, true, true, true, true, true, true, false, false, false, false]) rfl ?_
    go_wp2_with fail
    refine (concatD_any a.dl b.dl D D' cd cd' _ y3 (LA.out _ B3).2.1 (LA.out _ B3).2.2.2 ga2 gb2 HnD.out HnD'.out bS16.row bS16.lt).mono ?_
    rintro e y4 ⟨hc4, v17, rfl, o17n⟩
    have o17w := own_weak o17n Z3
    clear o17n
    have bS8 := bS8.below hc4 bS8.lt
    have bS16 := bS16.below hc4 bS16.lt
    have o9 := own_kept (w' := y4) o9 fun g cs hg h => h.below hc4 h.lt
    have o17 := o17w
    clear o17w
    have B4 : Below M W0 y4 := B3.trans (hc4.mono Z3)
    have Z4 : M ≤ y4.heap.size := HW.out _ B4
    obtain ⟨P17, k17, hv17⟩ := own_form o17
    subst hv17
    go_wp2_with fail
    refine OneR_mk (hc4.mono (Nat.le_trans HRM Z3)) ?_
    refine anyR_take0 18 _ (nthS (nthS (nthS (nthS (nthS (nthS (nthS (nthS (nthS (nthS (nthS (nthS (nthS (nthS (nthS (nthS (nthS (nthS (nth0))))))))))))))))))) rfl (by kernel_rfl) (by kernel_rfl) (by kernel_rfl) (l' := #[true, true, true, true, true, true, true, true, true, true, true, true, true, true, true, true, true, true, true, false, false, false]) rfl rfl ?_; intro K hK; go_big_quiet_op; go_big_quiet_on
    refine anyR_take0 19 _ (nthS (nthS (nthS (nthS (nthS (nthS (nthS (nthS (nthS (nthS (nthS (nthS (nthS (nthS (nthS (nthS (nthS (nthS (nthS (nth0)))))))))))))))))))) rfl (by kernel_rfl) (by kernel_rfl) (by kernel_rfl) (l' := #[true, true, true, true, true, true, true, true, true, true, true, true, true, true, true, true, true, true, true, true, false, false]) rfl rfl ?_; intro K hK; go_big_quiet_op; go_big_quiet_on
    refine anyR_one 20 _ (nthS (nthS (nthS (nthS (nthS (nthS (nthS (nthS (nthS (nthS (nthS (nthS (nthS (nthS (nthS (nthS (nthS (nthS (nthS (nthS (nth0))))))))))))))))))))) (by kernel_rfl) (l' := #[true, true, true, true, true, true, true, true, true, true, true, true, true, true, true, true, true, true, true, true, true, false]) rfl ?_
    have bO4 := bO.below B4 hRM
    have cO := bO4.row
    have fO := bO4.frozen
    unfold Row at cO
    have O9 := Lib.hid o9
    have O17 := Lib.hid o17
    clear bS8 bS16 o9 o17
    go_wp2_with fail
    refine OneR_mk ((((Below.refl _ _).setCell (p := ⟨N + 1 + 1, 0, none⟩) (Nat.le_refl _) _).setCell (p := ⟨N + 1 + 1, 1, none⟩) (Nat.le_refl _) _).setCell (p := ⟨N + 1 + 1, 2, none⟩) (Nat.le_refl _) _) ?_
    refine anyR_take0 21 _ (nthS (nthS (nthS (nthS (nthS (nthS (nthS (nthS (nthS (nthS (nthS (nthS (nthS (nthS (nthS (nthS (nthS (nthS (nthS (nthS (nthS (nth0)))))))))))))))))))))) rfl (by kernel_rfl) (by kernel_rfl) (by kernel_rfl) (l' := #[true, true, true, true, true, true, true, true, true, true, true, true, true, true, true, true, true, true, true, true, true, true]) rfl rfl ?_; intro K hK; go_big_quiet_op; go_big_quiet_on
    refine anyR_end (by kernel_rfl) ?_
    have C7 := Lib.hid (((bO4.set_ 0 (.int .i64 b.slots)).set_ 1 (.slice P9 (a.al.length + b.al.length) k9)).set_ 2 (.slice P17 (a.dl.length + b.dl.length) k17)).row
    have far : ∀ g t cs, M ≤ g → Blk y4 g t cs → Blk (((y4.setCell ⟨N + 1 + 1, 0, none⟩ (.int .i64 b.slots)).setCell ⟨N + 1 + 1, 1, none⟩ (.slice P9 (a.al.length + b.al.length) k9)).setCell ⟨N + 1 + 1, 2, none⟩ (.slice P17 (a.dl.length + b.dl.length) k17)) g t cs := fun g t cs h1 h => ((h.far (p := ⟨N + 1 + 1, 0, none⟩) (by dsimp only; omega) _).far (p := ⟨N + 1 + 1, 1, none⟩) (by dsimp only; omega) _).far (p := ⟨N + 1 + 1, 2, none⟩) (by dsimp only; omega) _
    have L1 := Lib.hid (own_A (own_kept O9.out fun g cs hg h => far g _ cs (O9.out.lt g hg).1 h))
    have L2 := Lib.hid (own_D (own_kept O17.out fun g cs hg h => far g _ cs (O17.out.lt g hg).1 h))
    have HF := Lib.hid ((((hb0.trans (B4.mono (by omega))).setCell (p := ⟨N + 1 + 1, 0, none⟩) (by dsimp only; omega) (.int .i64 b.slots)).setCell (p := ⟨N + 1 + 1, 1, none⟩) (by dsimp only; omega) (.slice P9 (a.al.length + b.al.length) k9)).setCell (p := ⟨N + 1 + 1, 2, none⟩) (by dsimp only; omega) (.slice P17 (a.dl.length + b.dl.length) k17))
    clear bO4 cO fO far
    go_wp2_with fail
    have c7 := C7.out
    unfold Row at c7
    simp only [List.set_cons_zero, List.set_cons_succ] at c7
    refine bodyPost_ret (v := .tuple #[.agg #[.int .i64 b.slots, .slice P9 (a.al.length + b.al.length) k9, .slice P17 (a.dl.length + b.dl.length) k17], .int .i64 0]) (by simp [results, Try.results32, go_sem, c7]) rfl ?_
    rw [HR.out.1, HR.out.2]
    exact ⟨by rw [← HN.out]; exact HF.out, P9, P17, k9, k17, by simp, L1.out, L2.out⟩

end Go.Proofs.Ytllakkepphpfmaa


