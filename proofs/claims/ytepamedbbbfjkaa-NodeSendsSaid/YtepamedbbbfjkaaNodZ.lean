/- Walk for the example of the node layer: Choose with one duty. -/
import Derived.Test.YtepamedbbbfjkaaNodY
namespace Go.Proofs.Ytepamedbbbfjkaa
open Go.RowKit
open Nd

theorem idx_one (p : Du → Bool) (d : Du) : idxP p [d] 0 = if p d = true then 0 else -1 := rfl
theorem lies_duty {w : World} {g : Nat} (hg : g < w.heap.size) (hc : ∀ i u, [.int .i64 1, .int .i64 0, .int .i64 1, .int .i64 0, .int .i64 7, .bool true, .bool false, .int .i64 0, .int .i64 (-1)][i]? = some u → w.cell? ⟨g, i, none⟩ = some u) : Lies w w.heap.size 9 (some ⟨g, 0, none⟩) ([exDu].map Du.row) := fun _ => ⟨g, 0, rfl, hg, fun k row hr j u hu => by
  cases k with
  | zero =>
    simp at hr
    subst hr
    simpa using hc j u hu
  | succ k => simp at hr⟩
set_option maxRecDepth 100000 in
set_option maxHeartbeats 2000000 in
theorem chooseS (hq : Ho) (gd : Nat) (A D : Option Addr) (c cd : Nat) (C : Bool) (w : World) (hA : Lies w w.heap.size 6 A ([exF].map Fl.row)) (hD : LiesH w w.heap.size D [hq]) (he : hq.fl = 7) (hC : conI hq.ak 0 = C) (hck : chkH [exF] ([hq].map Ho.d) = 0)
    (hd : Row w gd [.int .i64 1, .int .i64 0, .int .i64 1, .int .i64 0, .int .i64 7, .bool true, .bool false, .int .i64 0, .int .i64 (-1)]) (hgd : gd < w.heap.size) :
    Calls Try.prog 19 #[.slice A 1 c, .slice (some ⟨gd, 0, none⟩) 1 1, .int .i64 8, .int .i64 9, .slice D 1 cd] w fun e w' => Below w.heap.size w w' ∧ e = .returned (.tuple #[.agg (if C = true then [.int .i64 0, .int .i64 0, .int .i64 0, .int .i64 0, .int .i64 0, .int .i64 0, .int .i64 0] else [.int .i64 1, .int .i64 1, .int .i64 0, .int .i64 1, .int .i64 0, .int .i64 7, .int .i64 hq.fr]).toArray, .int .i64 0]) := by
  obtain ⟨N, hN⟩ : ∃ N, N = w.heap.size := ⟨_, rfl⟩
  obtain ⟨W1, hW1⟩ : ∃ W1, W1 = ((w.alloc (.cells #[.slice A 1 c] 22)).alloc (.cells #[.slice D 1 cd] 23)).alloc (.cells #[.int .i64 0, .int .i64 0, .int .i64 0, .int .i64 0, .int .i64 0, .int .i64 0, .int .i64 0] 56) := ⟨_, rfl⟩
  have hb1 : Below N w W1 := by rw [hW1, hN]; exact (((Below.refl _ _).alloc (Nat.le_refl _) _).alloc (by simp) _).alloc (by simp; omega) _
  have bF : Blk W1 N 22 [.slice A 1 c] := by rw [hW1, hN]; exact Blk.alloc (Blk.alloc (Blk.new2 _ [.slice A 1 c] rfl) _) _
  have bL : Blk W1 (N + 1) 23 [.slice D 1 cd] := by rw [hW1]; exact Blk.alloc (Blk.new2 _ [.slice D 1 cd] (by simp [hN])) _
  have bO : Blk W1 (N + 1 + 1) 56 [.int .i64 0, .int .i64 0, .int .i64 0, .int .i64 0, .int .i64 0, .int .i64 0, .int .i64 0] := by rw [hW1]; exact Blk.new2 _ [.int .i64 0, .int .i64 0, .int .i64 0, .int .i64 0, .int .i64 0, .int .i64 0, .int .i64 0] (by simp [hN])
  obtain ⟨M, hM⟩ : ∃ M, M = W1.heap.size := ⟨_, rfl⟩
  have hNM : N + 1 + 1 < M := by rw [hM]; exact bO.lt
  have HW := Lib.hid (fun W (hq' : Below M W1 W) => (show Below w.heap.size w W ∧ M ≤ W.heap.size from ⟨by rw [← hN]; exact hb1.trans (hq'.mono (by omega)), by rw [hM]; exact hq'.size⟩))
  have HA := Lib.hid (fun W (hq' : Below M W1 W) => Lies.later hA (HW.out W hq').1)
  have HD := Lib.hid (fun W (hq' : Below M W1 W) => LiesH.later hD (HW.out W hq').1)
  have HB := Lib.hid (fun W (hq' : Below M W1 W) => (show Blk W N 22 [.slice A 1 c] ∧ Blk W (N + 1) 23 [.slice D 1 cd] ∧ Blk W (N + 1 + 1) 56 [.int .i64 0, .int .i64 0, .int .i64 0, .int .i64 0, .int .i64 0, .int .i64 0, .int .i64 0] from ⟨bF.below hq' (by omega), bL.below hq' (by omega), bO.below hq' (by omega)⟩))
  have HCk := Lib.hid (by have := nCheck_any [exF] [hq] A D c cd W1 (HA.out _ (Below.refl _ _)) (by simp) (HD.out _ (Below.refl _ _)) (by simp); rw [hck] at this; exact this : Calls Try.prog 15 #[.slice A 1 c, .slice D 1 cd] W1 fun e w' => e = .returned (.int .i64 0) ∧ Below W1.heap.size W1 w')
  have HAt := Lib.hid (fun W (hq' : Below M W1 W) => at1 gd W (hd.below (HW.out W hq').1 hgd) (Nat.lt_of_lt_of_le hgd (HW.out W hq').1.size))
  have HS := Lib.hid (fun W (hq' : Below M W1 W) => choose1_any hq (N + 1) N A D c cd C W (HA.out W hq') (HD.out W hq') he hC (HB.out W hq').2.1.row (HB.out W hq').1.row (HB.out W hq').2.1.lt (HB.out W hq').1.lt)
  have HFd := Lib.hid (fun W hq' => (by have := hfind_any [hq] 7 D cd W (HD.out W hq') (by simp); rw [findH_one hq he] at this; exact this : Calls Try.prog 31 #[.slice D 1 cd, .int .i64 7] W fun e w' => e = .returned (.int .i64 0) ∧ Below W.heap.size W w'))
  have HW1 := Lib.hid hW1
  have HM := Lib.hid hM
  have HN := Lib.hid hN
  obtain ⟨hb_, hoff_, hDe, hbB, hcs⟩ := (HD.out _ (Below.refl _ _)).1.at_ (k := 0) (a := hq) rfl
  have c1 := hcs 0 hq rfl 1 _ rfl
  simp only [Nat.zero_mul, Nat.add_zero] at c1
  rw [← hM] at hbB
  subst hDe
  have r1 : Row (((w.alloc (.cells #[.slice A 1 c] 22)).alloc (.cells #[.slice (some ⟨hb_, hoff_, none⟩) 1 cd] 23)).alloc (.cells #[.int .i64 0, .int .i64 0, .int .i64 0, .int .i64 0, .int .i64 0, .int .i64 0, .int .i64 0] 56)) w.heap.size [.slice A 1 c] := by rw [← hW1, ← hN]; exact bF.row
  clear hA hD hC hck hd hb1 hW1 hM bF bL bO hcs he hN
  go_enter Try.func19, Try.ntmps19
  clear r1
  go_wp2_with fail
  rw [← HW1.out, ← HN.out]
  refine HCk.out.mono ?_
  rintro e w2 ⟨rfl, hb2⟩
  rw [← HM.out] at hb2
  go_wp2_with fail
  refine (HAt.out _ hb2).mono ?_
  rintro e w3 ⟨hb3, g3, c3, rfl, hg3, hr3⟩
  have hB3 : Below M W1 w3 := hb2.trans (hb3.mono (HW.out _ hb2).2)
  have HLd := Lib.hid (lies_duty hg3 hr3)
  have HR3 := Lib.hid hr3
  have con := indexD_any (fun d => !C) 45 #[.pointer (some ⟨N + 1, 0, none⟩), .pointer (some ⟨N, 0, none⟩)] [exDu] (some ⟨g3, 0, none⟩) c3 w3 (enters_of Try.func45 (by kernel_rfl) rfl) HLd.out (by simp) (fun W hW a ha => by
    obtain rfl : a = exDu := by simpa using ha
    exact HS.out W (hB3.trans (hW.mono (HW.out _ hB3).2)))
  rw [idx_one, show [exDu].length = 1 from rfl] at con
  have Con := Lib.hid con
  clear con hr3 hb2 hb3
  go_wp2_with fail
  cases C
  · have con := Con.out
    rw [if_pos (by rfl)] at con
    refine con.mono ?_
    clear con
    rintro e w4 ⟨rfl, hb4⟩
    have hB4 : Below M W1 w4 := hB3.trans (hb4.mono (HW.out _ hB3).2)
    obtain ⟨b1, b2, b3⟩ := HB.out _ hB4
    have hg4 : g3 < w4.heap.size := Nat.lt_of_lt_of_le hg3 hb4.size
    have HR4 := Lib.hid (fun i u hu => (hb4.cell (p := ⟨g3, i, none⟩) hg3).trans (HR3.out i u hu))
    clear Con HS HAt HCk
    go_wp2_with fail
    have hB4d : Below M W1 w4.drew := hB4.drew
    have xL : ∀ (x : ExtW w4.heap.size w4.drew) (i : Nat), x.val.cell? ⟨N + 1, i, none⟩ = _ := (Row.drew b2.row).ext b2.lt
    have x0 : ∀ (x : ExtW w4.heap.size w4.drew), x.val.cell? ⟨g3, 0, none⟩ = some (.int .i64 1) := fun x => (x.cell _ hg4).trans (HR4.out 0 _ rfl)
    have x1 : ∀ (x : ExtW w4.heap.size w4.drew), x.val.cell? ⟨g3, 1, none⟩ = some (.int .i64 0) := fun x => (x.cell _ hg4).trans (HR4.out 1 _ rfl)
    have x2 : ∀ (x : ExtW w4.heap.size w4.drew), x.val.cell? ⟨g3, 2, none⟩ = some (.int .i64 1) := fun x => (x.cell _ hg4).trans (HR4.out 2 _ rfl)
    have x3 : ∀ (x : ExtW w4.heap.size w4.drew), x.val.cell? ⟨g3, 3, none⟩ = some (.int .i64 0) := fun x => (x.cell _ hg4).trans (HR4.out 3 _ rfl)
    have x4 : ∀ (x : ExtW w4.heap.size w4.drew), x.val.cell? ⟨g3, 4, none⟩ = some (.int .i64 7) := fun x => (x.cell _ hg4).trans (HR4.out 4 _ rfl)
    have hhb : hb_ < w4.heap.size := Nat.lt_of_lt_of_le hbB (HW.out _ hB4).2
    have xh : ∀ (x : ExtW w4.heap.size w4.drew), x.val.cell? ⟨hb_, hoff_ + 1, none⟩ = some (.int .i64 hq.fr) := fun x => (x.cell _ hhb).trans ((hB4.cell (p := ⟨hb_, hoff_ + 1, none⟩) hbB).trans c1)
    refine wp_region_rough (w4.heap.size) 20 [18] #[false, false, false, false, false, false, false, false, false, false, false, false, false, false, false, false, false, false, false, false] (by kernel_rfl) rfl rfl ?_
    refine anyR_take0 0 _ (nth0) rfl (by kernel_rfl) (by kernel_rfl) (by kernel_rfl) (l' := #[true, false, false, false, false, false, false, false, false, false, false, false, false, false, false, false, false, false, false, false]) rfl rfl ?_; intro K hK; go_big_quiet_op; go_big_quiet_on
    refine anyR_take0 1 _ (nthS (nth0)) rfl (by kernel_rfl) (by kernel_rfl) (by kernel_rfl) (l' := #[true, true, false, false, false, false, false, false, false, false, false, false, false, false, false, false, false, false, false, false]) rfl rfl ?_; intro K hK; go_big_quiet_op; go_big_quiet_on
    refine anyR_take0 2 _ (nthS (nthS (nth0))) rfl (by kernel_rfl) (by kernel_rfl) (by kernel_rfl) (l' := #[true, true, true, false, false, false, false, false, false, false, false, false, false, false, false, false, false, false, false, false]) rfl rfl ?_; intro K hK; go_big_quiet_op; go_big_quiet_on
    refine anyR_take0 3 _ (nthS (nthS (nthS (nth0)))) rfl (by kernel_rfl) (by kernel_rfl) (by kernel_rfl) (l' := #[true, true, true, true, false, false, false, false, false, false, false, false, false, false, false, false, false, false, false, false]) rfl rfl ?_; intro K hK; go_big_quiet_op; go_big_quiet_on
    refine anyR_take 4 _ (nthS (nthS (nthS (nthS (nth0))))) rfl (by kernel_rfl) (by kernel_rfl) (by kernel_rfl) (by kernel_rfl) (l' := #[true, true, true, true, true, false, false, false, false, false, false, false, false, false, false, false, false, false, false, false]) rfl rfl ?_; intro K hK; go_big_quiet_op; go_big_quiet_on
    refine anyR_take 5 _ (nthS (nthS (nthS (nthS (nthS (nth0)))))) rfl (by kernel_rfl) (by kernel_rfl) (by kernel_rfl) (by kernel_rfl) (l' := #[true, true, true, true, true, true, false, false, false, false, false, false, false, false, false, false, false, false, false, false]) rfl rfl ?_; intro K hK; go_big_quiet_op; go_big_quiet_on
    refine anyR_take 6 _ (nthS (nthS (nthS (nthS (nthS (nthS (nth0))))))) rfl (by kernel_rfl) (by kernel_rfl) (by kernel_rfl) (by kernel_rfl) (l' := #[true, true, true, true, true, true, true, false, false, false, false, false, false, false, false, false, false, false, false, false]) rfl rfl ?_; intro K hK; go_big_quiet_op; go_big_quiet_on
    refine anyR_take0 7 _ (nthS (nthS (nthS (nthS (nthS (nthS (nthS (nth0)))))))) rfl (by kernel_rfl) (by kernel_rfl) (by kernel_rfl) (l' := #[true, true, true, true, true, true, true, true, false, false, false, false, false, false, false, false, false, false, false, false]) rfl rfl ?_; intro K hK; go_big_quiet_op; go_big_quiet_on
    refine anyR_take0 8 _ (nthS (nthS (nthS (nthS (nthS (nthS (nthS (nthS (nth0))))))))) rfl (by kernel_rfl) (by kernel_rfl) (by kernel_rfl) (l' := #[true, true, true, true, true, true, true, true, true, false, false, false, false, false, false, false, false, false, false, false]) rfl rfl ?_; intro K hK; go_big_quiet_op; go_big_quiet_on
    refine anyR_take0 9 _ (nthS (nthS (nthS (nthS (nthS (nthS (nthS (nthS (nthS (nth0)))))))))) rfl (by kernel_rfl) (by kernel_rfl) (by kernel_rfl) (l' := #[true, true, true, true, true, true, true, true, true, true, false, false, false, false, false, false, false, false, false, false]) rfl rfl ?_; intro K hK; go_big_quiet_op; go_big_quiet_on
    refine anyR_take0 10 _ (nthS (nthS (nthS (nthS (nthS (nthS (nthS (nthS (nthS (nthS (nth0))))))))))) rfl (by kernel_rfl) (by kernel_rfl) (by kernel_rfl) (l' := #[true, true, true, true, true, true, true, true, true, true, true, false, false, false, false, false, false, false, false, false]) rfl rfl ?_; intro K hK; go_big_quiet_op; go_big_quiet_on
    refine anyR_take0 11 _ (nthS (nthS (nthS (nthS (nthS (nthS (nthS (nthS (nthS (nthS (nthS (nth0)))))))))))) rfl (by kernel_rfl) (by kernel_rfl) (by kernel_rfl) (l' := #[true, true, true, true, true, true, true, true, true, true, true, true, false, false, false, false, false, false, false, false]) rfl rfl ?_; intro K hK; go_big_quiet_op; go_big_quiet_on
    refine anyR_take 12 _ (nthS (nthS (nthS (nthS (nthS (nthS (nthS (nthS (nthS (nthS (nthS (nthS (nth0))))))))))))) rfl (by kernel_rfl) (by kernel_rfl) (by kernel_rfl) (by kernel_rfl) (l' := #[true, true, true, true, true, true, true, true, true, true, true, true, true, false, false, false, false, false, false, false]) rfl rfl ?_; intro K hK; go_big_quiet_op; go_big_quiet_on
    refine anyR_one 13 _ (nthS (nthS (nthS (nthS (nthS (nthS (nthS (nthS (nthS (nthS (nthS (nthS (nthS (nth0)))))))))))))) (by kernel_rfl) (l' := #[true, true, true, true, true, true, true, true, true, true, true, true, true, true, false, false, false, false, false, false]) rfl ?_
    clear xL x0 x1 x2 x3 x4
    go_wp2_with fail
    refine (HFd.out _ hB4d).mono ?_
    rintro e w5 ⟨rfl, hb5⟩
    have hB5 : Below M W1 w5 := hB4d.trans (hb5.mono (HW.out _ hB4d).2)
    have th : w5.cell? ⟨hb_, hoff_ + 1, none⟩ = some (.int .i64 hq.fr) := (hB5.cell (p := ⟨hb_, hoff_ + 1, none⟩) hbB).trans c1
    have yh : ∀ (x : ExtW w4.heap.size w5), x.val.cell? ⟨hb_, hoff_ + 1, none⟩ = some (.int .i64 hq.fr) := fun x => (x.cell _ hhb).trans th
    clear xh
    go_wp2_with fail
    refine OneR_mk (hb5) ?_
    refine anyR_take0 14 _ (nthS (nthS (nthS (nthS (nthS (nthS (nthS (nthS (nthS (nthS (nthS (nthS (nthS (nthS (nth0))))))))))))))) rfl (by kernel_rfl) (by kernel_rfl) (by kernel_rfl) (l' := #[true, true, true, true, true, true, true, true, true, true, true, true, true, true, true, false, false, false, false, false]) rfl rfl ?_; intro K hK; go_big_quiet_op; go_big_quiet_on
    refine anyR_take0 15 _ (nthS (nthS (nthS (nthS (nthS (nthS (nthS (nthS (nthS (nthS (nthS (nthS (nthS (nthS (nthS (nth0)))))))))))))))) rfl (by kernel_rfl) (by kernel_rfl) (by kernel_rfl) (l' := #[true, true, true, true, true, true, true, true, true, true, true, true, true, true, true, true, false, false, false, false]) rfl rfl ?_; intro K hK; go_big_quiet_op; go_big_quiet_on
    refine anyR_take 16 _ (nthS (nthS (nthS (nthS (nthS (nthS (nthS (nthS (nthS (nthS (nthS (nthS (nthS (nthS (nthS (nthS (nth0))))))))))))))))) rfl (by kernel_rfl) (by kernel_rfl) (by kernel_rfl) (by kernel_rfl) (l' := #[true, true, true, true, true, true, true, true, true, true, true, true, true, true, true, true, true, false, false, false]) rfl rfl ?_; intro K hK; go_big_quiet_op; go_big_quiet_on
    refine anyR_take0 17 _ (nthS (nthS (nthS (nthS (nthS (nthS (nthS (nthS (nthS (nthS (nthS (nthS (nthS (nthS (nthS (nthS (nthS (nth0)))))))))))))))))) rfl (by kernel_rfl) (by kernel_rfl) (by kernel_rfl) (l' := #[true, true, true, true, true, true, true, true, true, true, true, true, true, true, true, true, true, true, false, false]) rfl rfl ?_; intro K hK; go_big_quiet_op; go_big_quiet_on
    refine anyR_one 18 _ (nthS (nthS (nthS (nthS (nthS (nthS (nthS (nthS (nthS (nthS (nthS (nthS (nthS (nthS (nthS (nthS (nthS (nthS (nth0))))))))))))))))))) (by kernel_rfl) (l' := #[true, true, true, true, true, true, true, true, true, true, true, true, true, true, true, true, true, true, true, false]) rfl ?_
    obtain ⟨_, _, b5⟩ := HB.out _ hB5
    have cb5 := b5.row
    have fb5 := b5.frozen
    unfold Row at cb5
    have b6 := (((((((b5.set_ 0 (.int .i64 1)).set_ 1 (.int .i64 1)).set_ 2 (.int .i64 0)).set_ 3 (.int .i64 1)).set_ 4 (.int .i64 0)).set_ 5 (.int .i64 7)).set_ 6 (.int .i64 hq.fr))
    simp only [List.set_cons_zero, List.set_cons_succ] at b6
    have C6 := Lib.hid b6.row
    clear b6
    go_wp2_with fail
    generalize hW6 : World.setCell _ _ _ = W6
    have hbe : Below 0 w5 W6 := by rw [← hW6]; exact ((((((((Below.refl 0 w5).setCell (p := ⟨N + 1 + 1, 0, none⟩) (Nat.zero_le _) (.int .i64 1)).setCell (p := ⟨N + 1 + 1, 1, none⟩) (Nat.zero_le _) (.int .i64 1)).setCell (p := ⟨N + 1 + 1, 2, none⟩) (Nat.zero_le _) (.int .i64 0)).setCell (p := ⟨N + 1 + 1, 3, none⟩) (Nat.zero_le _) (.int .i64 1)).setCell (p := ⟨N + 1 + 1, 4, none⟩) (Nat.zero_le _) (.int .i64 0)).setCell (p := ⟨N + 1 + 1, 5, none⟩) (Nat.zero_le _) (.int .i64 7)).setCell (p := ⟨N + 1 + 1, 6, none⟩) (Nat.zero_le _) (.int .i64 hq.fr))
    have HB6 : Hid (Below w.heap.size w W6) := Lib.hid (by rw [← hW6]; exact ((((((((HW.out _ hB5).1.setCell (p := ⟨N + 1 + 1, 0, none⟩) (by dsimp only; have := HN.out; omega) (.int .i64 1)).setCell (p := ⟨N + 1 + 1, 1, none⟩) (by dsimp only; have := HN.out; omega) (.int .i64 1)).setCell (p := ⟨N + 1 + 1, 2, none⟩) (by dsimp only; have := HN.out; omega) (.int .i64 0)).setCell (p := ⟨N + 1 + 1, 3, none⟩) (by dsimp only; have := HN.out; omega) (.int .i64 1)).setCell (p := ⟨N + 1 + 1, 4, none⟩) (by dsimp only; have := HN.out; omega) (.int .i64 0)).setCell (p := ⟨N + 1 + 1, 5, none⟩) (by dsimp only; have := HN.out; omega) (.int .i64 7)).setCell (p := ⟨N + 1 + 1, 6, none⟩) (by dsimp only; have := HN.out; omega) (.int .i64 hq.fr)))
    have C7 : Hid (Row W6 (N + 1 + 1) [.int .i64 1, .int .i64 1, .int .i64 0, .int .i64 1, .int .i64 0, .int .i64 7, .int .i64 hq.fr]) := Lib.hid (by rw [← hW6]; exact C6.out)
    clear hW6 C6 cb5 fb5
    refine OneR_rough (by kernel_rfl) (hbe) ?_
    refine anyR_take0 19 _ (nthS (nthS (nthS (nthS (nthS (nthS (nthS (nthS (nthS (nthS (nthS (nthS (nthS (nthS (nthS (nthS (nthS (nthS (nthS (nth0)))))))))))))))))))) rfl (by kernel_rfl) (by kernel_rfl) (by kernel_rfl) (l' := #[true, true, true, true, true, true, true, true, true, true, true, true, true, true, true, true, true, true, true, true]) rfl rfl ?_; intro K hK; go_big_quiet_op; go_big_quiet_on
    refine anyR_end (by kernel_rfl) ?_
    go_wp2_with fail
    have c6 := C7.out
    unfold Row at c6
    refine bodyPost_ret (v := .tuple #[.agg #[.int .i64 1, .int .i64 1, .int .i64 0, .int .i64 1, .int .i64 0, .int .i64 7, .int .i64 hq.fr], .int .i64 0]) (by simp [results, Try.results19, go_sem, c6]) rfl ?_
    exact ⟨HB6.out, rfl⟩
  · have con := Con.out
    rw [if_neg (by decide)] at con
    refine con.mono ?_
    clear con
    rintro e w4 ⟨rfl, hb4⟩
    have hB4 : Below M W1 w4 := hB3.trans (hb4.mono (HW.out _ hB3).2)
    have hg4 : g3 < w4.heap.size := Nat.lt_of_lt_of_le hg3 hb4.size
    have HR4 := Lib.hid (fun i u hu => (hb4.cell (p := ⟨g3, i, none⟩) hg3).trans (HR3.out i u hu))
    have con2 := indexD_any (fun d => !d.se) 47 #[] [exDu] (some ⟨g3, 0, none⟩) c3 w4 (enters_of Try.func47 (by kernel_rfl) rfl) (lies_duty hg4 HR4.out) (by simp) (fun W hW a ha => choose2_any a W)
    rw [idx_one, show [exDu].length = 1 from rfl, if_neg (by decide)] at con2
    have Con2 := Lib.hid con2
    clear con2 Con HS HAt HCk
    go_wp2_with fail
    refine Con2.out.mono ?_
    rintro e w5 ⟨rfl, hb5⟩
    have hB5 : Below M W1 w5 := hB4.trans (hb5.mono (HW.out _ hB4).2)
    obtain ⟨_, _, b5⟩ := HB.out _ hB5
    have cb5 := b5.row
    have fb5 := b5.frozen
    unfold Row at cb5
    have b6 := (((((((b5.set_ 0 (.int .i64 0)).set_ 1 (.int .i64 0)).set_ 2 (.int .i64 0)).set_ 3 (.int .i64 0)).set_ 4 (.int .i64 0)).set_ 5 (.int .i64 0)).set_ 6 (.int .i64 0))
    simp only [List.set_cons_zero, List.set_cons_succ] at b6
    have C6 := Lib.hid b6.row
    have HB6 : Hid (Below w.heap.size w (((((((w5.setCell ⟨N + 1 + 1, 0, none⟩ (.int .i64 0)).setCell ⟨N + 1 + 1, 1, none⟩ (.int .i64 0)).setCell ⟨N + 1 + 1, 2, none⟩ (.int .i64 0)).setCell ⟨N + 1 + 1, 3, none⟩ (.int .i64 0)).setCell ⟨N + 1 + 1, 4, none⟩ (.int .i64 0)).setCell ⟨N + 1 + 1, 5, none⟩ (.int .i64 0)).setCell ⟨N + 1 + 1, 6, none⟩ (.int .i64 0))) := Lib.hid ((((((((HW.out _ hB5).1.setCell (p := ⟨N + 1 + 1, 0, none⟩) (by dsimp only; have := HN.out; omega) (.int .i64 0)).setCell (p := ⟨N + 1 + 1, 1, none⟩) (by dsimp only; have := HN.out; omega) (.int .i64 0)).setCell (p := ⟨N + 1 + 1, 2, none⟩) (by dsimp only; have := HN.out; omega) (.int .i64 0)).setCell (p := ⟨N + 1 + 1, 3, none⟩) (by dsimp only; have := HN.out; omega) (.int .i64 0)).setCell (p := ⟨N + 1 + 1, 4, none⟩) (by dsimp only; have := HN.out; omega) (.int .i64 0)).setCell (p := ⟨N + 1 + 1, 5, none⟩) (by dsimp only; have := HN.out; omega) (.int .i64 0)).setCell (p := ⟨N + 1 + 1, 6, none⟩) (by dsimp only; have := HN.out; omega) (.int .i64 0))
    clear Con2 b6
    go_wp2_with fail
    have c6 := C6.out
    unfold Row at c6
    refine bodyPost_ret (v := .tuple #[.agg #[.int .i64 0, .int .i64 0, .int .i64 0, .int .i64 0, .int .i64 0, .int .i64 0, .int .i64 0], .int .i64 0]) (by simp [results, Try.results19, go_sem, c6]) rfl ?_
    exact ⟨HB6.out, rfl⟩
end Go.Proofs.Ytepamedbbbfjkaa
