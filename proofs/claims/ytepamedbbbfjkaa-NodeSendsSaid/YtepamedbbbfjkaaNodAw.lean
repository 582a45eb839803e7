/- Walk: the example that every law of the node layer checks first. -/
import Derived.Test.YtepamedbbbfjkaaNodSe
namespace Go.Proofs.Ytepamedbbbfjkaa
open Go.RowKit
open Nd
theorem beg_ex1 : beg [exF] 1 8 [] = ([⟨7, 1, []⟩], 0) := by kernel_rfl
theorem beg_ex2 : beg [exF] 0 16 [⟨7, 1, []⟩] = ([], 0) := by kernel_rfl
theorem hear_ex1 : Nd.hear [exF] 0 9 [] 7 1 = ([⟨7, 1, []⟩], true, 0) := by kernel_rfl
theorem hear_ex2 : Nd.hear [exF] 0 10 [⟨7, 1, []⟩] 7 1 = ([⟨7, 1, []⟩], false, 0) := by kernel_rfl
theorem chk_ex1 : chkH [exF] [⟨7, 1, []⟩] = 0 := by kernel_rfl
theorem chk_ex2 : chkH [exF] [⟨7, 1, [0]⟩] = 0 := by kernel_rfl
theorem one_of {l : List Ho} {x : Hd} (h : l.map Ho.d = [x]) : ∃ a : Ho, l = [a] ∧ a.fl = x.fl ∧ a.fr = x.fr ∧ a.ak = x.ak := by
  obtain ⟨a, rfl⟩ : ∃ a, l = [a] := List.length_eq_one_iff.1 (by simpa using congrArg List.length h)
  simp only [List.map_cons, List.map_nil, List.cons.injEq, and_true] at h
  subst h
  exact ⟨a, rfl, rfl, rfl, rfl⟩
theorem lies_flow {w : World} {g : Nat} (hg : g < w.heap.size) (hr : Row w g [.int .i64 7, .int .i64 1, .int .i64 0, .int .i64 8, .int .i64 0, .int .i64 8]) : Lies w w.heap.size 6 (some ⟨g, 0, none⟩) ([exF].map Fl.row) := fun _ => ⟨g, 0, rfl, hg, fun k row hrr j u hu => by
  cases k with
  | zero =>
    simp at hrr
    subst hrr
    have := hr j
    rw [show ([.int .i64 7, .int .i64 1, .int .i64 0, .int .i64 8, .int .i64 0, .int .i64 8] : List Value)[j]? = some u from hu] at this
    simpa using this
  | succ k => simp at hrr⟩
theorem liesH_nil (w : World) (B : Nat) (A : Option Addr) : LiesH w B A [] := ⟨Lies.nil _ _ _ _, fun h hh => by cases hh⟩

set_option maxRecDepth 100000 in
set_option maxHeartbeats 2000000 in
theorem awake_any (w : World) : Calls Try.prog 7 #[] w fun e w' => e = .returned (.bool true) ∧ Below w.heap.size w w' := by
  obtain ⟨N, hN⟩ : ∃ N, N = w.heap.size := ⟨_, rfl⟩
  obtain ⟨W1, hW1⟩ : ∃ W1, W1 = (w.alloc (.cells #[.int .i64 7, .int .i64 1, .int .i64 0, .int .i64 8, .int .i64 0, .int .i64 8] 33)).alloc (.cells #[.int .i64 1, .int .i64 0, .int .i64 1, .int .i64 0, .int .i64 7] 25) := ⟨_, rfl⟩
  have hb1 : Below N w W1 := by rw [hW1, hN]; exact ((Below.refl _ _).alloc (Nat.le_refl _) _).alloc (by simp) _
  have bF : Blk W1 N 33 [.int .i64 7, .int .i64 1, .int .i64 0, .int .i64 8, .int .i64 0, .int .i64 8] := by rw [hW1, hN]; exact Blk.alloc (Blk.new2 _ [.int .i64 7, .int .i64 1, .int .i64 0, .int .i64 8, .int .i64 0, .int .i64 8] rfl) _
  have bC : Blk W1 (N + 1) 25 [.int .i64 1, .int .i64 0, .int .i64 1, .int .i64 0, .int .i64 7] := by rw [hW1]; exact Blk.new2 _ [.int .i64 1, .int .i64 0, .int .i64 1, .int .i64 0, .int .i64 7] (by simp [hN])
  obtain ⟨M, hM⟩ : ∃ M, M = W1.heap.size := ⟨_, rfl⟩
  have hNM : N + 1 < M := by rw [hM]; exact bC.lt
  have HW := Lib.hid (fun W (h' : Below M W1 W) => (show Below w.heap.size w W ∧ M ≤ W.heap.size ∧ Blk W N 33 [.int .i64 7, .int .i64 1, .int .i64 0, .int .i64 8, .int .i64 0, .int .i64 8] ∧ Blk W (N + 1) 25 [.int .i64 1, .int .i64 0, .int .i64 1, .int .i64 0, .int .i64 7] from ⟨by rw [← hN]; exact hb1.trans (h'.mono (by omega)), by rw [hM]; exact h'.size, bF.below h' (by omega), bC.below h' hNM⟩))
  have HF := Lib.hid (fun W (h' : Below M W1 W) => lies_flow (HW.out W h').2.2.1.lt (HW.out W h').2.2.1.row)
  have HB1 := Lib.hid (by have := begin_any [exF] [] (some ⟨N, 0, none⟩) none 1 0 1 8 W1 (HF.out _ (Below.refl _ _)) (by simp) (liesH_nil _ _ _) (by simp); rw [List.map_nil, beg_ex1] at this; exact this : Calls Try.prog 14 #[.slice (some ⟨N, 0, none⟩) 1 1, .int .i64 1, .int .i64 8, .slice none 0 0] W1 fun e w' => Below W1.heap.size W1 w' ∧ ∃ v l', e = .returned (.tuple #[v, .int .i64 0]) ∧ OutH w' W1.heap.size v l' ∧ l'.map Ho.d = [⟨7, 1, []⟩])
  have HW1 := Lib.hid hW1
  have HM := Lib.hid hM
  have HN := Lib.hid hN
  clear hb1 hW1 hM bF bC hN
  go_enter Try.func7, Try.ntmps7
  go_wp2_with fail
  rw [← HW1.out, ← HN.out]
  refine HB1.out.mono ?_
  rintro e w2 ⟨hb2, v2, l2, rfl, ho2, hm2⟩
  rw [← HM.out] at hb2 ho2
  obtain ⟨h2, hl2, hd2⟩ := one_of hm2
  subst hl2
  obtain ⟨A2, c2, hv2, hL2⟩ := ho2.lies
  rw [List.length_singleton] at hv2
  subst hv2
  have HD2 : Hid (h2.fl = 7 ∧ h2.fr = 1 ∧ h2.ak = []) := Lib.hid hd2
  have HL2 := Lib.hid (fun W (h' : Below w2.heap.size w2 W) => hL2.later h')
  clear ho2 hm2 hd2 hL2 HB1
  have hB2 := HW.out _ hb2
  have cC2 := hB2.2.2.2.row
  unfold Row at cC2
  go_wp2_with fail
  have hb3 : Below w2.heap.size w2 (w2.alloc (.cells #[.int .i64 1, .int .i64 0, .int .i64 1, .int .i64 0, .int .i64 7, .bool true, .bool false, .int .i64 0, .int .i64 (-1)] 63)) := (Below.refl _ _).alloc (Nat.le_refl _) _
  have hB3 : Below M W1 (w2.alloc (.cells #[.int .i64 1, .int .i64 0, .int .i64 1, .int .i64 0, .int .i64 7, .bool true, .bool false, .int .i64 0, .int .i64 (-1)] 63)) := hb2.trans (hb3.mono hB2.2.1)
  have b3 : Blk (w2.alloc (.cells #[.int .i64 1, .int .i64 0, .int .i64 1, .int .i64 0, .int .i64 7, .bool true, .bool false, .int .i64 0, .int .i64 (-1)] 63)) w2.heap.size 63 [.int .i64 1, .int .i64 0, .int .i64 1, .int .i64 0, .int .i64 7, .bool true, .bool false, .int .i64 0, .int .i64 (-1)] := Blk.new2 _ [.int .i64 1, .int .i64 0, .int .i64 1, .int .i64 0, .int .i64 7, .bool true, .bool false, .int .i64 0, .int .i64 (-1)] rfl
  refine (chooseS h2 w2.heap.size (some ⟨N, 0, none⟩) A2 1 c2 false _ (HF.out _ hB3) (HL2.out _ hb3) HD2.out.1 (by rw [HD2.out.2.2]; rfl) (by show chkH [exF] [⟨h2.fl, h2.fr, h2.ak⟩] = 0; rw [HD2.out.1, HD2.out.2.1, HD2.out.2.2]; exact chk_ex1) b3.row b3.lt).mono ?_
  rintro e w4 ⟨hb4, he4⟩
  rw [HD2.out.2.1, if_neg (by decide)] at he4
  subst he4
  have hb24 : Below w2.heap.size w2 w4 := hb3.trans (hb4.mono (by simp))
  have hB4 : Below M W1 w4 := hb2.trans (hb24.mono hB2.2.1)
  clear hb3 hB3 b3 hb4 cC2
  go_upto_region 5 with fail
  generalize hW5 : World.alloc _ _ = W5
  have b5 : Blk W5 w4.heap.size 56 [.int .i64 1, .int .i64 1, .int .i64 0, .int .i64 1, .int .i64 0, .int .i64 7, .int .i64 1] := by rw [← hW5]; exact Blk.new2 _ [.int .i64 1, .int .i64 1, .int .i64 0, .int .i64 1, .int .i64 0, .int .i64 7, .int .i64 1] rfl
  have hb45 : Below w4.heap.size w4 W5 := by rw [← hW5]; exact (Below.refl _ _).alloc (Nat.le_refl _) _
  obtain ⟨g5, hg5⟩ : ∃ g5, g5 = w4.heap.size := ⟨_, rfl⟩
  have hb25 : Below w2.heap.size w2 W5 := hb24.trans (hb45.mono hb24.size)
  have hB5 : Below M W1 W5 := hb2.trans (hb25.mono hB2.2.1)
  rw [← hg5] at b5 ⊢
  have HL5 := Lib.hid (fun W (h' : Below W5.heap.size W5 W) => HL2.out W (hb25.trans (h'.mono hb25.size)))
  have HW5 := Lib.hid (fun W (h' : Below W5.heap.size W5 W) => hB5.trans (h'.mono (HW.out _ hB5).2.1))
  have HFL := Lib.hid (fun W (h' : Below W5.heap.size W5 W) => HF.out W (HW5.out W h'))
  have HB5 := Lib.hid (fun W (h' : Below W5.heap.size W5 W) => b5.below h' b5.lt)
  have rC := (HW.out _ hB5).2.2.2
  clear hW5 hg5 hb24 hb45 hB4
  go_cut [7, 8] (fun s7 s8 W => ∃ g7, s7 = .pointer (some ⟨g7, 0, none⟩) ∧ s8 = .int .i64 0 ∧ Below W5.heap.size W5 W ∧ Blk W g7 56 [.int .i64 0, .int .i64 0, .int .i64 0, .int .i64 0, .int .i64 0, .int .i64 0, .int .i64 0])
  case first =>
    have xx : ∀ (x : ExtW W5.heap.size W5.drew) (i : Nat), x.val.cell? ⟨N + 1, i, none⟩ = _ := (Row.drew rC.row).ext rC.lt
    clear rC
    refine wp_region_rough (W5.heap.size) 14 [] #[false, false, false, false, false, false, false, false, false, false, false, false, false, false] (by kernel_rfl) rfl rfl ?_
    generalize hwd : W5.drew = wd at xx ⊢
    have hvd : Below W5.heap.size W5 wd := by rw [← hwd]; exact (Below.refl _ _).drew
    clear hwd
    refine anyR_take0 0 _ (nth0) rfl (by kernel_rfl) (by kernel_rfl) (by kernel_rfl) (l' := #[true, false, false, false, false, false, false, false, false, false, false, false, false, false]) rfl rfl ?_; intro K hK; go_big_quiet_op; go_big_quiet_on
    refine anyR_take 1 _ (nthS (nth0)) rfl (by kernel_rfl) (by kernel_rfl) (by kernel_rfl) (by kernel_rfl) (l' := #[true, true, false, false, false, false, false, false, false, false, false, false, false, false]) rfl rfl ?_; intro K hK; go_big_quiet_op; go_big_quiet_on
    refine anyR_take0 2 _ (nthS (nthS (nth0))) rfl (by kernel_rfl) (by kernel_rfl) (by kernel_rfl) (l' := #[true, true, true, false, false, false, false, false, false, false, false, false, false, false]) rfl rfl ?_; intro K hK; go_big_quiet_op; go_big_quiet_on
    refine anyR_take0 4 _ (nthS (nthS (nthS (nthS (nth0))))) rfl (by kernel_rfl) (by kernel_rfl) (by kernel_rfl) (l' := #[true, true, true, false, true, false, false, false, false, false, false, false, false, false]) rfl rfl ?_; intro K hK; go_big_quiet_op; go_big_quiet_on
    refine anyR_take 5 _ (nthS (nthS (nthS (nthS (nthS (nth0)))))) rfl (by kernel_rfl) (by kernel_rfl) (by kernel_rfl) (by kernel_rfl) (l' := #[true, true, true, false, true, true, false, false, false, false, false, false, false, false]) rfl rfl ?_; intro K hK; go_big_quiet_op; go_big_quiet_on
    refine anyR_three 3 6 11 _ _ _ (nthS (nthS (nthS (nth0)))) (nthS (nthS (nthS (nthS (nthS (nthS (nth0))))))) (nthS (nthS (nthS (nthS (nthS (nthS (nthS (nthS (nthS (nthS (nthS (nth0)))))))))))) (by kernel_rfl) (l1 := #[true, true, true, true, true, true, false, false, false, false, false, false, false, false]) (l2 := #[true, true, true, false, true, true, true, false, false, false, false, false, false, false]) (l3 := #[true, true, true, false, true, true, false, false, false, false, false, true, false, false]) rfl rfl rfl ?_ ?_ ?_
    · clear xx
      have hp3 : Below W5.heap.size W5 wd := hvd
      go_wp2_with fail
      generalize hV3 : World.alloc _ _ = V3
      have hv3 : Below wd.heap.size wd V3 := by rw [← hV3]; exact (Below.refl _ _).alloc (Nat.le_refl _) _
      have bd3 : Blk V3 wd.heap.size 63 [.int .i64 1, .int .i64 0, .int .i64 1, .int .i64 0, .int .i64 7, .bool true, .bool false, .int .i64 0, .int .i64 (-1)] := by rw [← hV3]; exact Blk.new2 _ [.int .i64 1, .int .i64 0, .int .i64 1, .int .i64 0, .int .i64 7, .bool true, .bool false, .int .i64 0, .int .i64 (-1)] rfl
      obtain ⟨g3, hg3⟩ : ∃ g3, g3 = wd.heap.size := ⟨_, rfl⟩
      rw [← hg3] at bd3 ⊢
      clear hV3 hg3
      refine OneR_mk (hv3.mono hp3.size) ?_
      refine anyR_two 6 11 _ _ (nthS (nthS (nthS (nthS (nthS (nthS (nth0))))))) (nthS (nthS (nthS (nthS (nthS (nthS (nthS (nthS (nthS (nthS (nthS (nth0)))))))))))) (by kernel_rfl) (l1 := #[true, true, true, true, true, true, true, false, false, false, false, false, false, false]) (l2 := #[true, true, true, true, true, true, false, false, false, false, false, true, false, false]) rfl rfl ?_ ?_
      · have hp6 : Below W5.heap.size W5 V3 := (hvd.trans (hv3.mono hvd.size))
        go_wp2_with fail
        refine (sentS h2 A2 c2 _ (HL5.out _ hp6) HD2.out.1 HD2.out.2.2).mono ?_
        rintro e V6 ⟨hv6, v6, l6, rfl, ho6, hm6⟩
        obtain ⟨h6, hl6⟩ : ∃ h6, l6 = [h6] := List.length_eq_one_iff.1 (by simpa using congrArg List.length hm6)
        subst hl6
        obtain ⟨A6, c6, hv6e, hL6⟩ := ho6.lies
        rw [List.length_singleton] at hv6e
        subst hv6e
        have HD6 : Hid (h6.fl = 7 ∧ h6.fr = 1 ∧ h6.ak = [0]) := Lib.hid (by simp only [List.map_cons, List.map_nil, List.cons.injEq, and_true, Ho.d, Hd.mk.injEq] at hm6; exact ⟨hm6.1, hm6.2.1.trans HD2.out.2.1, hm6.2.2⟩)
        clear ho6 hm6
        go_wp2_with fail
        refine OneR_mk (hv6.mono hp6.size) ?_
        refine anyR_two 7 11 _ _ (nthS (nthS (nthS (nthS (nthS (nthS (nthS (nth0)))))))) (nthS (nthS (nthS (nthS (nthS (nthS (nthS (nthS (nthS (nthS (nthS (nth0)))))))))))) (by kernel_rfl) (l1 := #[true, true, true, true, true, true, true, true, false, false, false, false, false, false]) (l2 := #[true, true, true, true, true, true, true, false, false, false, false, true, false, false]) rfl rfl ?_ ?_
        · have hp7 : Below W5.heap.size W5 V6 := ((hvd.trans (hv3.mono hvd.size)).trans (hv6.mono (hvd.trans (hv3.mono hvd.size)).size))
          go_wp2_with fail
          refine (chooseS h6 g3 (some ⟨N, 0, none⟩) A6 1 c6 true _ (HFL.out _ hp7) hL6 HD6.out.1 (by rw [HD6.out.2.2]; rfl) (by show chkH [exF] [⟨h6.fl, h6.fr, h6.ak⟩] = 0; rw [HD6.out.1, HD6.out.2.1, HD6.out.2.2]; exact chk_ex2) (bd3.below hv6 bd3.lt).row (bd3.below hv6 bd3.lt).lt).mono ?_
          rintro e V7 ⟨hv7, rfl⟩
          go_wp2_with fail
          refine OneR_mk (hv7.mono hp7.size) ?_
          refine anyR_take0 8 _ (nthS (nthS (nthS (nthS (nthS (nthS (nthS (nthS (nth0))))))))) rfl (by kernel_rfl) (by kernel_rfl) (by kernel_rfl) (l' := #[true, true, true, true, true, true, true, true, true, false, false, false, false, false]) rfl rfl ?_; intro K hK; go_big_quiet_op; go_big_quiet_on
          refine anyR_take0 9 _ (nthS (nthS (nthS (nthS (nthS (nthS (nthS (nthS (nthS (nth0)))))))))) rfl (by kernel_rfl) (by kernel_rfl) (by kernel_rfl) (l' := #[true, true, true, true, true, true, true, true, true, true, false, false, false, false]) rfl rfl ?_; intro K hK; go_big_quiet_op; go_big_quiet_on
          refine anyR_take0 10 _ (nthS (nthS (nthS (nthS (nthS (nthS (nthS (nthS (nthS (nthS (nth0))))))))))) rfl (by kernel_rfl) (by kernel_rfl) (by kernel_rfl) (l' := #[true, true, true, true, true, true, true, true, true, true, true, false, false, false]) rfl rfl ?_; intro K hK; go_big_quiet_op; go_big_quiet_on
          refine anyR_one 11 _ (nthS (nthS (nthS (nthS (nthS (nthS (nthS (nthS (nthS (nthS (nthS (nth0)))))))))))) (by kernel_rfl) (l' := #[true, true, true, true, true, true, true, true, true, true, true, true, false, false]) rfl ?_
          have hp11 : Below W5.heap.size W5 V7 := (((hvd.trans (hv3.mono hvd.size)).trans (hv6.mono (hvd.trans (hv3.mono hvd.size)).size)).trans (hv7.mono ((hvd.trans (hv3.mono hvd.size)).trans (hv6.mono (hvd.trans (hv3.mono hvd.size)).size)).size))
          go_wp2_with fail
          generalize hV11 : World.alloc _ _ = V11
          have hv11 : Below V7.heap.size V7 V11 := by rw [← hV11]; exact (Below.refl _ _).alloc (Nat.le_refl _) _
          have bd11 : Blk V11 V7.heap.size 56 [.int .i64 0, .int .i64 0, .int .i64 0, .int .i64 0, .int .i64 0, .int .i64 0, .int .i64 0] := by rw [← hV11]; exact Blk.new2 _ [.int .i64 0, .int .i64 0, .int .i64 0, .int .i64 0, .int .i64 0, .int .i64 0, .int .i64 0] rfl
          obtain ⟨g11, hg11⟩ : ∃ g11, g11 = V7.heap.size := ⟨_, rfl⟩
          have hgB : W5.heap.size ≤ g11 := by rw [hg11]; exact hp11.size
          rw [← hg11] at bd11 ⊢
          clear hV11 hg11
          refine OneR_mk (hv11.mono hp11.size) ?_
          refine anyR_one 12 _ (nthS (nthS (nthS (nthS (nthS (nthS (nthS (nthS (nthS (nthS (nthS (nthS (nth0))))))))))))) (by kernel_rfl) (l' := #[true, true, true, true, true, true, true, true, true, true, true, true, true, false]) rfl ?_
          have hp12 : Below W5.heap.size W5 V11 := ((((hvd.trans (hv3.mono hvd.size)).trans (hv6.mono (hvd.trans (hv3.mono hvd.size)).size)).trans (hv7.mono ((hvd.trans (hv3.mono hvd.size)).trans (hv6.mono (hvd.trans (hv3.mono hvd.size)).size)).size)).trans (hv11.mono (((hvd.trans (hv3.mono hvd.size)).trans (hv6.mono (hvd.trans (hv3.mono hvd.size)).size)).trans (hv7.mono ((hvd.trans (hv3.mono hvd.size)).trans (hv6.mono (hvd.trans (hv3.mono hvd.size)).size)).size)).size))
          have b12 := bd11
          have c12 := b12.row
          have f12 := b12.frozen
          unfold Row at c12
          have b13 := ((((((b12.set_ 0 (.int .i64 0)).set_ 1 (.int .i64 0)).set_ 2 (.int .i64 0)).set_ 3 (.int .i64 0)).set_ 4 (.int .i64 0)).set_ 5 (.int .i64 0)).set_ 6 (.int .i64 0)
          simp only [List.set_cons_zero, List.set_cons_succ] at b13
          have C13 := Lib.hid b13
          clear b13
          go_wp2_with fail
          generalize hV12 : World.setCell _ _ _ = V12
          have hv12 : Below W5.heap.size V11 V12 := by rw [← hV12]; exact (((((((Below.refl _ _).setCell (p := ⟨g11, 0, none⟩) hgB _).setCell (p := ⟨g11, 1, none⟩) hgB _).setCell (p := ⟨g11, 2, none⟩) hgB _).setCell (p := ⟨g11, 3, none⟩) hgB _).setCell (p := ⟨g11, 4, none⟩) hgB _).setCell (p := ⟨g11, 5, none⟩) hgB _).setCell (p := ⟨g11, 6, none⟩) hgB _
          have C14 : Hid (Blk V12 g11 56 [.int .i64 0, .int .i64 0, .int .i64 0, .int .i64 0, .int .i64 0, .int .i64 0, .int .i64 0]) := Lib.hid (by rw [← hV12]; exact C13.out)
          have HBV : Hid (Below W5.heap.size W5 V12) := Lib.hid (hp12.trans hv12)
          clear hV12 C13 c12 f12 b12
          refine OneR_mk (hv12) ?_
          refine anyR_take0 13 _ (nthS (nthS (nthS (nthS (nthS (nthS (nthS (nthS (nthS (nthS (nthS (nthS (nthS (nth0)))))))))))))) rfl (by kernel_rfl) (by kernel_rfl) (by kernel_rfl) (l' := #[true, true, true, true, true, true, true, true, true, true, true, true, true, true]) rfl rfl ?_; intro K hK; go_big_quiet_op; go_big_quiet_on
          refine anyR_end (by kernel_rfl) ?_
          go_wp2_with fail
          go_meet
          exact ⟨g11, rfl, rfl, HBV.out, C14.out⟩
        · have hp11 : Below W5.heap.size W5 V6 := ((hvd.trans (hv3.mono hvd.size)).trans (hv6.mono (hvd.trans (hv3.mono hvd.size)).size))
          go_wp2_with fail
          generalize hV11 : World.alloc _ _ = V11
          have hv11 : Below V6.heap.size V6 V11 := by rw [← hV11]; exact (Below.refl _ _).alloc (Nat.le_refl _) _
          have bd11 : Blk V11 V6.heap.size 56 [.int .i64 0, .int .i64 0, .int .i64 0, .int .i64 0, .int .i64 0, .int .i64 0, .int .i64 0] := by rw [← hV11]; exact Blk.new2 _ [.int .i64 0, .int .i64 0, .int .i64 0, .int .i64 0, .int .i64 0, .int .i64 0, .int .i64 0] rfl
          obtain ⟨g11, hg11⟩ : ∃ g11, g11 = V6.heap.size := ⟨_, rfl⟩
          have hgB : W5.heap.size ≤ g11 := by rw [hg11]; exact hp11.size
          rw [← hg11] at bd11 ⊢
          clear hV11 hg11
          refine OneR_mk (hv11.mono hp11.size) ?_
          refine anyR_one 7 _ (nthS (nthS (nthS (nthS (nthS (nthS (nthS (nth0)))))))) (by kernel_rfl) (l' := #[true, true, true, true, true, true, true, true, false, false, false, true, false, false]) rfl ?_
          have hp7 : Below W5.heap.size W5 V11 := (((hvd.trans (hv3.mono hvd.size)).trans (hv6.mono (hvd.trans (hv3.mono hvd.size)).size)).trans (hv11.mono ((hvd.trans (hv3.mono hvd.size)).trans (hv6.mono (hvd.trans (hv3.mono hvd.size)).size)).size))
          go_wp2_with fail
          refine (chooseS h6 g3 (some ⟨N, 0, none⟩) A6 1 c6 true _ (HFL.out _ hp7) (hL6.later hv11) HD6.out.1 (by rw [HD6.out.2.2]; rfl) (by show chkH [exF] [⟨h6.fl, h6.fr, h6.ak⟩] = 0; rw [HD6.out.1, HD6.out.2.1, HD6.out.2.2]; exact chk_ex2) (bd3.below (hv6.trans (hv11.mono hv6.size)) bd3.lt).row (bd3.below (hv6.trans (hv11.mono hv6.size)) bd3.lt).lt).mono ?_
          rintro e V7 ⟨hv7, rfl⟩
          go_wp2_with fail
          refine OneR_mk (hv7.mono hp7.size) ?_
          refine anyR_take0 8 _ (nthS (nthS (nthS (nthS (nthS (nthS (nthS (nthS (nth0))))))))) rfl (by kernel_rfl) (by kernel_rfl) (by kernel_rfl) (l' := #[true, true, true, true, true, true, true, true, true, false, false, true, false, false]) rfl rfl ?_; intro K hK; go_big_quiet_op; go_big_quiet_on
          refine anyR_take0 9 _ (nthS (nthS (nthS (nthS (nthS (nthS (nthS (nthS (nthS (nth0)))))))))) rfl (by kernel_rfl) (by kernel_rfl) (by kernel_rfl) (l' := #[true, true, true, true, true, true, true, true, true, true, false, true, false, false]) rfl rfl ?_; intro K hK; go_big_quiet_op; go_big_quiet_on
          refine anyR_take0 10 _ (nthS (nthS (nthS (nthS (nthS (nthS (nthS (nthS (nthS (nthS (nth0))))))))))) rfl (by kernel_rfl) (by kernel_rfl) (by kernel_rfl) (l' := #[true, true, true, true, true, true, true, true, true, true, true, true, false, false]) rfl rfl ?_; intro K hK; go_big_quiet_op; go_big_quiet_on
          refine anyR_one 12 _ (nthS (nthS (nthS (nthS (nthS (nthS (nthS (nthS (nthS (nthS (nthS (nthS (nth0))))))))))))) (by kernel_rfl) (l' := #[true, true, true, true, true, true, true, true, true, true, true, true, true, false]) rfl ?_
          have hp12 : Below W5.heap.size W5 V7 := ((((hvd.trans (hv3.mono hvd.size)).trans (hv6.mono (hvd.trans (hv3.mono hvd.size)).size)).trans (hv11.mono ((hvd.trans (hv3.mono hvd.size)).trans (hv6.mono (hvd.trans (hv3.mono hvd.size)).size)).size)).trans (hv7.mono (((hvd.trans (hv3.mono hvd.size)).trans (hv6.mono (hvd.trans (hv3.mono hvd.size)).size)).trans (hv11.mono ((hvd.trans (hv3.mono hvd.size)).trans (hv6.mono (hvd.trans (hv3.mono hvd.size)).size)).size)).size))
          have b12 := (bd11.below hv7 bd11.lt)
          have c12 := b12.row
          have f12 := b12.frozen
          unfold Row at c12
          have b13 := ((((((b12.set_ 0 (.int .i64 0)).set_ 1 (.int .i64 0)).set_ 2 (.int .i64 0)).set_ 3 (.int .i64 0)).set_ 4 (.int .i64 0)).set_ 5 (.int .i64 0)).set_ 6 (.int .i64 0)
          simp only [List.set_cons_zero, List.set_cons_succ] at b13
          have C13 := Lib.hid b13
          clear b13
          go_wp2_with fail
          generalize hV12 : World.setCell _ _ _ = V12
          have hv12 : Below W5.heap.size V7 V12 := by rw [← hV12]; exact (((((((Below.refl _ _).setCell (p := ⟨g11, 0, none⟩) hgB _).setCell (p := ⟨g11, 1, none⟩) hgB _).setCell (p := ⟨g11, 2, none⟩) hgB _).setCell (p := ⟨g11, 3, none⟩) hgB _).setCell (p := ⟨g11, 4, none⟩) hgB _).setCell (p := ⟨g11, 5, none⟩) hgB _).setCell (p := ⟨g11, 6, none⟩) hgB _
          have C14 : Hid (Blk V12 g11 56 [.int .i64 0, .int .i64 0, .int .i64 0, .int .i64 0, .int .i64 0, .int .i64 0, .int .i64 0]) := Lib.hid (by rw [← hV12]; exact C13.out)
          have HBV : Hid (Below W5.heap.size W5 V12) := Lib.hid (hp12.trans hv12)
          clear hV12 C13 c12 f12 b12
          refine OneR_mk (hv12) ?_
          refine anyR_take0 13 _ (nthS (nthS (nthS (nthS (nthS (nthS (nthS (nthS (nthS (nthS (nthS (nthS (nthS (nth0)))))))))))))) rfl (by kernel_rfl) (by kernel_rfl) (by kernel_rfl) (l' := #[true, true, true, true, true, true, true, true, true, true, true, true, true, true]) rfl rfl ?_; intro K hK; go_big_quiet_op; go_big_quiet_on
          refine anyR_end (by kernel_rfl) ?_
          go_wp2_with fail
          go_meet
          exact ⟨g11, rfl, rfl, HBV.out, C14.out⟩
      · have hp11 : Below W5.heap.size W5 V3 := (hvd.trans (hv3.mono hvd.size))
        go_wp2_with fail
        generalize hV11 : World.alloc _ _ = V11
        have hv11 : Below V3.heap.size V3 V11 := by rw [← hV11]; exact (Below.refl _ _).alloc (Nat.le_refl _) _
        have bd11 : Blk V11 V3.heap.size 56 [.int .i64 0, .int .i64 0, .int .i64 0, .int .i64 0, .int .i64 0, .int .i64 0, .int .i64 0] := by rw [← hV11]; exact Blk.new2 _ [.int .i64 0, .int .i64 0, .int .i64 0, .int .i64 0, .int .i64 0, .int .i64 0, .int .i64 0] rfl
        obtain ⟨g11, hg11⟩ : ∃ g11, g11 = V3.heap.size := ⟨_, rfl⟩
        have hgB : W5.heap.size ≤ g11 := by rw [hg11]; exact hp11.size
        rw [← hg11] at bd11 ⊢
        clear hV11 hg11
        refine OneR_mk (hv11.mono hp11.size) ?_
        refine anyR_one 6 _ (nthS (nthS (nthS (nthS (nthS (nthS (nth0))))))) (by kernel_rfl) (l' := #[true, true, true, true, true, true, true, false, false, false, false, true, false, false]) rfl ?_
        have hp6 : Below W5.heap.size W5 V11 := ((hvd.trans (hv3.mono hvd.size)).trans (hv11.mono (hvd.trans (hv3.mono hvd.size)).size))
        go_wp2_with fail
        refine (sentS h2 A2 c2 _ (HL5.out _ hp6) HD2.out.1 HD2.out.2.2).mono ?_
        rintro e V6 ⟨hv6, v6, l6, rfl, ho6, hm6⟩
        obtain ⟨h6, hl6⟩ : ∃ h6, l6 = [h6] := List.length_eq_one_iff.1 (by simpa using congrArg List.length hm6)
        subst hl6
        obtain ⟨A6, c6, hv6e, hL6⟩ := ho6.lies
        rw [List.length_singleton] at hv6e
        subst hv6e
        have HD6 : Hid (h6.fl = 7 ∧ h6.fr = 1 ∧ h6.ak = [0]) := Lib.hid (by simp only [List.map_cons, List.map_nil, List.cons.injEq, and_true, Ho.d, Hd.mk.injEq] at hm6; exact ⟨hm6.1, hm6.2.1.trans HD2.out.2.1, hm6.2.2⟩)
        clear ho6 hm6
        go_wp2_with fail
        refine OneR_mk (hv6.mono hp6.size) ?_
        refine anyR_one 7 _ (nthS (nthS (nthS (nthS (nthS (nthS (nthS (nth0)))))))) (by kernel_rfl) (l' := #[true, true, true, true, true, true, true, true, false, false, false, true, false, false]) rfl ?_
        have hp7 : Below W5.heap.size W5 V6 := (((hvd.trans (hv3.mono hvd.size)).trans (hv11.mono (hvd.trans (hv3.mono hvd.size)).size)).trans (hv6.mono ((hvd.trans (hv3.mono hvd.size)).trans (hv11.mono (hvd.trans (hv3.mono hvd.size)).size)).size))
        go_wp2_with fail
        refine (chooseS h6 g3 (some ⟨N, 0, none⟩) A6 1 c6 true _ (HFL.out _ hp7) hL6 HD6.out.1 (by rw [HD6.out.2.2]; rfl) (by show chkH [exF] [⟨h6.fl, h6.fr, h6.ak⟩] = 0; rw [HD6.out.1, HD6.out.2.1, HD6.out.2.2]; exact chk_ex2) (bd3.below (hv11.trans (hv6.mono hv11.size)) bd3.lt).row (bd3.below (hv11.trans (hv6.mono hv11.size)) bd3.lt).lt).mono ?_
        rintro e V7 ⟨hv7, rfl⟩
        go_wp2_with fail
        refine OneR_mk (hv7.mono hp7.size) ?_
        refine anyR_take0 8 _ (nthS (nthS (nthS (nthS (nthS (nthS (nthS (nthS (nth0))))))))) rfl (by kernel_rfl) (by kernel_rfl) (by kernel_rfl) (l' := #[true, true, true, true, true, true, true, true, true, false, false, true, false, false]) rfl rfl ?_; intro K hK; go_big_quiet_op; go_big_quiet_on
        refine anyR_take0 9 _ (nthS (nthS (nthS (nthS (nthS (nthS (nthS (nthS (nthS (nth0)))))))))) rfl (by kernel_rfl) (by kernel_rfl) (by kernel_rfl) (l' := #[true, true, true, true, true, true, true, true, true, true, false, true, false, false]) rfl rfl ?_; intro K hK; go_big_quiet_op; go_big_quiet_on
        refine anyR_take0 10 _ (nthS (nthS (nthS (nthS (nthS (nthS (nthS (nthS (nthS (nthS (nth0))))))))))) rfl (by kernel_rfl) (by kernel_rfl) (by kernel_rfl) (l' := #[true, true, true, true, true, true, true, true, true, true, true, true, false, false]) rfl rfl ?_; intro K hK; go_big_quiet_op; go_big_quiet_on
        refine anyR_one 12 _ (nthS (nthS (nthS (nthS (nthS (nthS (nthS (nthS (nthS (nthS (nthS (nthS (nth0))))))))))))) (by kernel_rfl) (l' := #[true, true, true, true, true, true, true, true, true, true, true, true, true, false]) rfl ?_
        have hp12 : Below W5.heap.size W5 V7 := ((((hvd.trans (hv3.mono hvd.size)).trans (hv11.mono (hvd.trans (hv3.mono hvd.size)).size)).trans (hv6.mono ((hvd.trans (hv3.mono hvd.size)).trans (hv11.mono (hvd.trans (hv3.mono hvd.size)).size)).size)).trans (hv7.mono (((hvd.trans (hv3.mono hvd.size)).trans (hv11.mono (hvd.trans (hv3.mono hvd.size)).size)).trans (hv6.mono ((hvd.trans (hv3.mono hvd.size)).trans (hv11.mono (hvd.trans (hv3.mono hvd.size)).size)).size)).size))
        have b12 := (bd11.below (hv6.trans (hv7.mono hv6.size)) bd11.lt)
        have c12 := b12.row
        have f12 := b12.frozen
        unfold Row at c12
        have b13 := ((((((b12.set_ 0 (.int .i64 0)).set_ 1 (.int .i64 0)).set_ 2 (.int .i64 0)).set_ 3 (.int .i64 0)).set_ 4 (.int .i64 0)).set_ 5 (.int .i64 0)).set_ 6 (.int .i64 0)
        simp only [List.set_cons_zero, List.set_cons_succ] at b13
        have C13 := Lib.hid b13
        clear b13
        go_wp2_with fail
        generalize hV12 : World.setCell _ _ _ = V12
        have hv12 : Below W5.heap.size V7 V12 := by rw [← hV12]; exact (((((((Below.refl _ _).setCell (p := ⟨g11, 0, none⟩) hgB _).setCell (p := ⟨g11, 1, none⟩) hgB _).setCell (p := ⟨g11, 2, none⟩) hgB _).setCell (p := ⟨g11, 3, none⟩) hgB _).setCell (p := ⟨g11, 4, none⟩) hgB _).setCell (p := ⟨g11, 5, none⟩) hgB _).setCell (p := ⟨g11, 6, none⟩) hgB _
        have C14 : Hid (Blk V12 g11 56 [.int .i64 0, .int .i64 0, .int .i64 0, .int .i64 0, .int .i64 0, .int .i64 0, .int .i64 0]) := Lib.hid (by rw [← hV12]; exact C13.out)
        have HBV : Hid (Below W5.heap.size W5 V12) := Lib.hid (hp12.trans hv12)
        clear hV12 C13 c12 f12 b12
        refine OneR_mk (hv12) ?_
        refine anyR_take0 13 _ (nthS (nthS (nthS (nthS (nthS (nthS (nthS (nthS (nthS (nthS (nthS (nthS (nthS (nth0)))))))))))))) rfl (by kernel_rfl) (by kernel_rfl) (by kernel_rfl) (l' := #[true, true, true, true, true, true, true, true, true, true, true, true, true, true]) rfl rfl ?_; intro K hK; go_big_quiet_op; go_big_quiet_on
        refine anyR_end (by kernel_rfl) ?_
        go_wp2_with fail
        go_meet
        exact ⟨g11, rfl, rfl, HBV.out, C14.out⟩
    · clear xx
      have hp6 : Below W5.heap.size W5 wd := hvd
      go_wp2_with fail
      refine (sentS h2 A2 c2 _ (HL5.out _ hp6) HD2.out.1 HD2.out.2.2).mono ?_
      rintro e V6 ⟨hv6, v6, l6, rfl, ho6, hm6⟩
      obtain ⟨h6, hl6⟩ : ∃ h6, l6 = [h6] := List.length_eq_one_iff.1 (by simpa using congrArg List.length hm6)
      subst hl6
      obtain ⟨A6, c6, hv6e, hL6⟩ := ho6.lies
      rw [List.length_singleton] at hv6e
      subst hv6e
      have HD6 : Hid (h6.fl = 7 ∧ h6.fr = 1 ∧ h6.ak = [0]) := Lib.hid (by simp only [List.map_cons, List.map_nil, List.cons.injEq, and_true, Ho.d, Hd.mk.injEq] at hm6; exact ⟨hm6.1, hm6.2.1.trans HD2.out.2.1, hm6.2.2⟩)
      clear ho6 hm6
      go_wp2_with fail
      refine OneR_mk (hv6.mono hp6.size) ?_
      refine anyR_two 3 11 _ _ (nthS (nthS (nthS (nth0)))) (nthS (nthS (nthS (nthS (nthS (nthS (nthS (nthS (nthS (nthS (nthS (nth0)))))))))))) (by kernel_rfl) (l1 := #[true, true, true, true, true, true, true, false, false, false, false, false, false, false]) (l2 := #[true, true, true, false, true, true, true, false, false, false, false, true, false, false]) rfl rfl ?_ ?_
      · have hp3 : Below W5.heap.size W5 V6 := (hvd.trans (hv6.mono hvd.size))
        go_wp2_with fail
        generalize hV3 : World.alloc _ _ = V3
        have hv3 : Below V6.heap.size V6 V3 := by rw [← hV3]; exact (Below.refl _ _).alloc (Nat.le_refl _) _
        have bd3 : Blk V3 V6.heap.size 63 [.int .i64 1, .int .i64 0, .int .i64 1, .int .i64 0, .int .i64 7, .bool true, .bool false, .int .i64 0, .int .i64 (-1)] := by rw [← hV3]; exact Blk.new2 _ [.int .i64 1, .int .i64 0, .int .i64 1, .int .i64 0, .int .i64 7, .bool true, .bool false, .int .i64 0, .int .i64 (-1)] rfl
        obtain ⟨g3, hg3⟩ : ∃ g3, g3 = V6.heap.size := ⟨_, rfl⟩
        rw [← hg3] at bd3 ⊢
        clear hV3 hg3
        refine OneR_mk (hv3.mono hp3.size) ?_
        refine anyR_two 7 11 _ _ (nthS (nthS (nthS (nthS (nthS (nthS (nthS (nth0)))))))) (nthS (nthS (nthS (nthS (nthS (nthS (nthS (nthS (nthS (nthS (nthS (nth0)))))))))))) (by kernel_rfl) (l1 := #[true, true, true, true, true, true, true, true, false, false, false, false, false, false]) (l2 := #[true, true, true, true, true, true, true, false, false, false, false, true, false, false]) rfl rfl ?_ ?_
        · have hp7 : Below W5.heap.size W5 V3 := ((hvd.trans (hv6.mono hvd.size)).trans (hv3.mono (hvd.trans (hv6.mono hvd.size)).size))
          go_wp2_with fail
          refine (chooseS h6 g3 (some ⟨N, 0, none⟩) A6 1 c6 true _ (HFL.out _ hp7) (hL6.later hv3) HD6.out.1 (by rw [HD6.out.2.2]; rfl) (by show chkH [exF] [⟨h6.fl, h6.fr, h6.ak⟩] = 0; rw [HD6.out.1, HD6.out.2.1, HD6.out.2.2]; exact chk_ex2) bd3.row bd3.lt).mono ?_
          rintro e V7 ⟨hv7, rfl⟩
          go_wp2_with fail
          refine OneR_mk (hv7.mono hp7.size) ?_
          refine anyR_take0 8 _ (nthS (nthS (nthS (nthS (nthS (nthS (nthS (nthS (nth0))))))))) rfl (by kernel_rfl) (by kernel_rfl) (by kernel_rfl) (l' := #[true, true, true, true, true, true, true, true, true, false, false, false, false, false]) rfl rfl ?_; intro K hK; go_big_quiet_op; go_big_quiet_on
          refine anyR_take0 9 _ (nthS (nthS (nthS (nthS (nthS (nthS (nthS (nthS (nthS (nth0)))))))))) rfl (by kernel_rfl) (by kernel_rfl) (by kernel_rfl) (l' := #[true, true, true, true, true, true, true, true, true, true, false, false, false, false]) rfl rfl ?_; intro K hK; go_big_quiet_op; go_big_quiet_on
          refine anyR_take0 10 _ (nthS (nthS (nthS (nthS (nthS (nthS (nthS (nthS (nthS (nthS (nth0))))))))))) rfl (by kernel_rfl) (by kernel_rfl) (by kernel_rfl) (l' := #[true, true, true, true, true, true, true, true, true, true, true, false, false, false]) rfl rfl ?_; intro K hK; go_big_quiet_op; go_big_quiet_on
          refine anyR_one 11 _ (nthS (nthS (nthS (nthS (nthS (nthS (nthS (nthS (nthS (nthS (nthS (nth0)))))))))))) (by kernel_rfl) (l' := #[true, true, true, true, true, true, true, true, true, true, true, true, false, false]) rfl ?_
          have hp11 : Below W5.heap.size W5 V7 := (((hvd.trans (hv6.mono hvd.size)).trans (hv3.mono (hvd.trans (hv6.mono hvd.size)).size)).trans (hv7.mono ((hvd.trans (hv6.mono hvd.size)).trans (hv3.mono (hvd.trans (hv6.mono hvd.size)).size)).size))
          go_wp2_with fail
          generalize hV11 : World.alloc _ _ = V11
          have hv11 : Below V7.heap.size V7 V11 := by rw [← hV11]; exact (Below.refl _ _).alloc (Nat.le_refl _) _
          have bd11 : Blk V11 V7.heap.size 56 [.int .i64 0, .int .i64 0, .int .i64 0, .int .i64 0, .int .i64 0, .int .i64 0, .int .i64 0] := by rw [← hV11]; exact Blk.new2 _ [.int .i64 0, .int .i64 0, .int .i64 0, .int .i64 0, .int .i64 0, .int .i64 0, .int .i64 0] rfl
          obtain ⟨g11, hg11⟩ : ∃ g11, g11 = V7.heap.size := ⟨_, rfl⟩
          have hgB : W5.heap.size ≤ g11 := by rw [hg11]; exact hp11.size
          rw [← hg11] at bd11 ⊢
          clear hV11 hg11
          refine OneR_mk (hv11.mono hp11.size) ?_
          refine anyR_one 12 _ (nthS (nthS (nthS (nthS (nthS (nthS (nthS (nthS (nthS (nthS (nthS (nthS (nth0))))))))))))) (by kernel_rfl) (l' := #[true, true, true, true, true, true, true, true, true, true, true, true, true, false]) rfl ?_
          have hp12 : Below W5.heap.size W5 V11 := ((((hvd.trans (hv6.mono hvd.size)).trans (hv3.mono (hvd.trans (hv6.mono hvd.size)).size)).trans (hv7.mono ((hvd.trans (hv6.mono hvd.size)).trans (hv3.mono (hvd.trans (hv6.mono hvd.size)).size)).size)).trans (hv11.mono (((hvd.trans (hv6.mono hvd.size)).trans (hv3.mono (hvd.trans (hv6.mono hvd.size)).size)).trans (hv7.mono ((hvd.trans (hv6.mono hvd.size)).trans (hv3.mono (hvd.trans (hv6.mono hvd.size)).size)).size)).size))
          have b12 := bd11
          have c12 := b12.row
          have f12 := b12.frozen
          unfold Row at c12
          have b13 := ((((((b12.set_ 0 (.int .i64 0)).set_ 1 (.int .i64 0)).set_ 2 (.int .i64 0)).set_ 3 (.int .i64 0)).set_ 4 (.int .i64 0)).set_ 5 (.int .i64 0)).set_ 6 (.int .i64 0)
          simp only [List.set_cons_zero, List.set_cons_succ] at b13
          have C13 := Lib.hid b13
          clear b13
          go_wp2_with fail
          generalize hV12 : World.setCell _ _ _ = V12
          have hv12 : Below W5.heap.size V11 V12 := by rw [← hV12]; exact (((((((Below.refl _ _).setCell (p := ⟨g11, 0, none⟩) hgB _).setCell (p := ⟨g11, 1, none⟩) hgB _).setCell (p := ⟨g11, 2, none⟩) hgB _).setCell (p := ⟨g11, 3, none⟩) hgB _).setCell (p := ⟨g11, 4, none⟩) hgB _).setCell (p := ⟨g11, 5, none⟩) hgB _).setCell (p := ⟨g11, 6, none⟩) hgB _
          have C14 : Hid (Blk V12 g11 56 [.int .i64 0, .int .i64 0, .int .i64 0, .int .i64 0, .int .i64 0, .int .i64 0, .int .i64 0]) := Lib.hid (by rw [← hV12]; exact C13.out)
          have HBV : Hid (Below W5.heap.size W5 V12) := Lib.hid (hp12.trans hv12)
          clear hV12 C13 c12 f12 b12
          refine OneR_mk (hv12) ?_
          refine anyR_take0 13 _ (nthS (nthS (nthS (nthS (nthS (nthS (nthS (nthS (nthS (nthS (nthS (nthS (nthS (nth0)))))))))))))) rfl (by kernel_rfl) (by kernel_rfl) (by kernel_rfl) (l' := #[true, true, true, true, true, true, true, true, true, true, true, true, true, true]) rfl rfl ?_; intro K hK; go_big_quiet_op; go_big_quiet_on
          refine anyR_end (by kernel_rfl) ?_
          go_wp2_with fail
          go_meet
          exact ⟨g11, rfl, rfl, HBV.out, C14.out⟩
        · have hp11 : Below W5.heap.size W5 V3 := ((hvd.trans (hv6.mono hvd.size)).trans (hv3.mono (hvd.trans (hv6.mono hvd.size)).size))
          go_wp2_with fail
          generalize hV11 : World.alloc _ _ = V11
          have hv11 : Below V3.heap.size V3 V11 := by rw [← hV11]; exact (Below.refl _ _).alloc (Nat.le_refl _) _
          have bd11 : Blk V11 V3.heap.size 56 [.int .i64 0, .int .i64 0, .int .i64 0, .int .i64 0, .int .i64 0, .int .i64 0, .int .i64 0] := by rw [← hV11]; exact Blk.new2 _ [.int .i64 0, .int .i64 0, .int .i64 0, .int .i64 0, .int .i64 0, .int .i64 0, .int .i64 0] rfl
          obtain ⟨g11, hg11⟩ : ∃ g11, g11 = V3.heap.size := ⟨_, rfl⟩
          have hgB : W5.heap.size ≤ g11 := by rw [hg11]; exact hp11.size
          rw [← hg11] at bd11 ⊢
          clear hV11 hg11
          refine OneR_mk (hv11.mono hp11.size) ?_
          refine anyR_one 7 _ (nthS (nthS (nthS (nthS (nthS (nthS (nthS (nth0)))))))) (by kernel_rfl) (l' := #[true, true, true, true, true, true, true, true, false, false, false, true, false, false]) rfl ?_
          have hp7 : Below W5.heap.size W5 V11 := (((hvd.trans (hv6.mono hvd.size)).trans (hv3.mono (hvd.trans (hv6.mono hvd.size)).size)).trans (hv11.mono ((hvd.trans (hv6.mono hvd.size)).trans (hv3.mono (hvd.trans (hv6.mono hvd.size)).size)).size))
          go_wp2_with fail
          refine (chooseS h6 g3 (some ⟨N, 0, none⟩) A6 1 c6 true _ (HFL.out _ hp7) (hL6.later (hv3.trans (hv11.mono hv3.size))) HD6.out.1 (by rw [HD6.out.2.2]; rfl) (by show chkH [exF] [⟨h6.fl, h6.fr, h6.ak⟩] = 0; rw [HD6.out.1, HD6.out.2.1, HD6.out.2.2]; exact chk_ex2) (bd3.below hv11 bd3.lt).row (bd3.below hv11 bd3.lt).lt).mono ?_
          rintro e V7 ⟨hv7, rfl⟩
          go_wp2_with fail
          refine OneR_mk (hv7.mono hp7.size) ?_
          refine anyR_take0 8 _ (nthS (nthS (nthS (nthS (nthS (nthS (nthS (nthS (nth0))))))))) rfl (by kernel_rfl) (by kernel_rfl) (by kernel_rfl) (l' := #[true, true, true, true, true, true, true, true, true, false, false, true, false, false]) rfl rfl ?_; intro K hK; go_big_quiet_op; go_big_quiet_on
          refine anyR_take0 9 _ (nthS (nthS (nthS (nthS (nthS (nthS (nthS (nthS (nthS (nth0)))))))))) rfl (by kernel_rfl) (by kernel_rfl) (by kernel_rfl) (l' := #[true, true, true, true, true, true, true, true, true, true, false, true, false, false]) rfl rfl ?_; intro K hK; go_big_quiet_op; go_big_quiet_on
          refine anyR_take0 10 _ (nthS (nthS (nthS (nthS (nthS (nthS (nthS (nthS (nthS (nthS (nth0))))))))))) rfl (by kernel_rfl) (by kernel_rfl) (by kernel_rfl) (l' := #[true, true, true, true, true, true, true, true, true, true, true, true, false, false]) rfl rfl ?_; intro K hK; go_big_quiet_op; go_big_quiet_on
          refine anyR_one 12 _ (nthS (nthS (nthS (nthS (nthS (nthS (nthS (nthS (nthS (nthS (nthS (nthS (nth0))))))))))))) (by kernel_rfl) (l' := #[true, true, true, true, true, true, true, true, true, true, true, true, true, false]) rfl ?_
          have hp12 : Below W5.heap.size W5 V7 := ((((hvd.trans (hv6.mono hvd.size)).trans (hv3.mono (hvd.trans (hv6.mono hvd.size)).size)).trans (hv11.mono ((hvd.trans (hv6.mono hvd.size)).trans (hv3.mono (hvd.trans (hv6.mono hvd.size)).size)).size)).trans (hv7.mono (((hvd.trans (hv6.mono hvd.size)).trans (hv3.mono (hvd.trans (hv6.mono hvd.size)).size)).trans (hv11.mono ((hvd.trans (hv6.mono hvd.size)).trans (hv3.mono (hvd.trans (hv6.mono hvd.size)).size)).size)).size))
          have b12 := (bd11.below hv7 bd11.lt)
          have c12 := b12.row
          have f12 := b12.frozen
          unfold Row at c12
          have b13 := ((((((b12.set_ 0 (.int .i64 0)).set_ 1 (.int .i64 0)).set_ 2 (.int .i64 0)).set_ 3 (.int .i64 0)).set_ 4 (.int .i64 0)).set_ 5 (.int .i64 0)).set_ 6 (.int .i64 0)
          simp only [List.set_cons_zero, List.set_cons_succ] at b13
          have C13 := Lib.hid b13
          clear b13
          go_wp2_with fail
          generalize hV12 : World.setCell _ _ _ = V12
          have hv12 : Below W5.heap.size V7 V12 := by rw [← hV12]; exact (((((((Below.refl _ _).setCell (p := ⟨g11, 0, none⟩) hgB _).setCell (p := ⟨g11, 1, none⟩) hgB _).setCell (p := ⟨g11, 2, none⟩) hgB _).setCell (p := ⟨g11, 3, none⟩) hgB _).setCell (p := ⟨g11, 4, none⟩) hgB _).setCell (p := ⟨g11, 5, none⟩) hgB _).setCell (p := ⟨g11, 6, none⟩) hgB _
          have C14 : Hid (Blk V12 g11 56 [.int .i64 0, .int .i64 0, .int .i64 0, .int .i64 0, .int .i64 0, .int .i64 0, .int .i64 0]) := Lib.hid (by rw [← hV12]; exact C13.out)
          have HBV : Hid (Below W5.heap.size W5 V12) := Lib.hid (hp12.trans hv12)
          clear hV12 C13 c12 f12 b12
          refine OneR_mk (hv12) ?_
          refine anyR_take0 13 _ (nthS (nthS (nthS (nthS (nthS (nthS (nthS (nthS (nthS (nthS (nthS (nthS (nthS (nth0)))))))))))))) rfl (by kernel_rfl) (by kernel_rfl) (by kernel_rfl) (l' := #[true, true, true, true, true, true, true, true, true, true, true, true, true, true]) rfl rfl ?_; intro K hK; go_big_quiet_op; go_big_quiet_on
          refine anyR_end (by kernel_rfl) ?_
          go_wp2_with fail
          go_meet
          exact ⟨g11, rfl, rfl, HBV.out, C14.out⟩
      · have hp11 : Below W5.heap.size W5 V6 := (hvd.trans (hv6.mono hvd.size))
        go_wp2_with fail
        generalize hV11 : World.alloc _ _ = V11
        have hv11 : Below V6.heap.size V6 V11 := by rw [← hV11]; exact (Below.refl _ _).alloc (Nat.le_refl _) _
        have bd11 : Blk V11 V6.heap.size 56 [.int .i64 0, .int .i64 0, .int .i64 0, .int .i64 0, .int .i64 0, .int .i64 0, .int .i64 0] := by rw [← hV11]; exact Blk.new2 _ [.int .i64 0, .int .i64 0, .int .i64 0, .int .i64 0, .int .i64 0, .int .i64 0, .int .i64 0] rfl
        obtain ⟨g11, hg11⟩ : ∃ g11, g11 = V6.heap.size := ⟨_, rfl⟩
        have hgB : W5.heap.size ≤ g11 := by rw [hg11]; exact hp11.size
        rw [← hg11] at bd11 ⊢
        clear hV11 hg11
        refine OneR_mk (hv11.mono hp11.size) ?_
        refine anyR_one 3 _ (nthS (nthS (nthS (nth0)))) (by kernel_rfl) (l' := #[true, true, true, true, true, true, true, false, false, false, false, true, false, false]) rfl ?_
        have hp3 : Below W5.heap.size W5 V11 := ((hvd.trans (hv6.mono hvd.size)).trans (hv11.mono (hvd.trans (hv6.mono hvd.size)).size))
        go_wp2_with fail
        generalize hV3 : World.alloc _ _ = V3
        have hv3 : Below V11.heap.size V11 V3 := by rw [← hV3]; exact (Below.refl _ _).alloc (Nat.le_refl _) _
        have bd3 : Blk V3 V11.heap.size 63 [.int .i64 1, .int .i64 0, .int .i64 1, .int .i64 0, .int .i64 7, .bool true, .bool false, .int .i64 0, .int .i64 (-1)] := by rw [← hV3]; exact Blk.new2 _ [.int .i64 1, .int .i64 0, .int .i64 1, .int .i64 0, .int .i64 7, .bool true, .bool false, .int .i64 0, .int .i64 (-1)] rfl
        obtain ⟨g3, hg3⟩ : ∃ g3, g3 = V11.heap.size := ⟨_, rfl⟩
        rw [← hg3] at bd3 ⊢
        clear hV3 hg3
        refine OneR_mk (hv3.mono hp3.size) ?_
        refine anyR_one 7 _ (nthS (nthS (nthS (nthS (nthS (nthS (nthS (nth0)))))))) (by kernel_rfl) (l' := #[true, true, true, true, true, true, true, true, false, false, false, true, false, false]) rfl ?_
        have hp7 : Below W5.heap.size W5 V3 := (((hvd.trans (hv6.mono hvd.size)).trans (hv11.mono (hvd.trans (hv6.mono hvd.size)).size)).trans (hv3.mono ((hvd.trans (hv6.mono hvd.size)).trans (hv11.mono (hvd.trans (hv6.mono hvd.size)).size)).size))
        go_wp2_with fail
        refine (chooseS h6 g3 (some ⟨N, 0, none⟩) A6 1 c6 true _ (HFL.out _ hp7) (hL6.later (hv11.trans (hv3.mono hv11.size))) HD6.out.1 (by rw [HD6.out.2.2]; rfl) (by show chkH [exF] [⟨h6.fl, h6.fr, h6.ak⟩] = 0; rw [HD6.out.1, HD6.out.2.1, HD6.out.2.2]; exact chk_ex2) bd3.row bd3.lt).mono ?_
        rintro e V7 ⟨hv7, rfl⟩
        go_wp2_with fail
        refine OneR_mk (hv7.mono hp7.size) ?_
        refine anyR_take0 8 _ (nthS (nthS (nthS (nthS (nthS (nthS (nthS (nthS (nth0))))))))) rfl (by kernel_rfl) (by kernel_rfl) (by kernel_rfl) (l' := #[true, true, true, true, true, true, true, true, true, false, false, true, false, false]) rfl rfl ?_; intro K hK; go_big_quiet_op; go_big_quiet_on
        refine anyR_take0 9 _ (nthS (nthS (nthS (nthS (nthS (nthS (nthS (nthS (nthS (nth0)))))))))) rfl (by kernel_rfl) (by kernel_rfl) (by kernel_rfl) (l' := #[true, true, true, true, true, true, true, true, true, true, false, true, false, false]) rfl rfl ?_; intro K hK; go_big_quiet_op; go_big_quiet_on
        refine anyR_take0 10 _ (nthS (nthS (nthS (nthS (nthS (nthS (nthS (nthS (nthS (nthS (nth0))))))))))) rfl (by kernel_rfl) (by kernel_rfl) (by kernel_rfl) (l' := #[true, true, true, true, true, true, true, true, true, true, true, true, false, false]) rfl rfl ?_; intro K hK; go_big_quiet_op; go_big_quiet_on
        refine anyR_one 12 _ (nthS (nthS (nthS (nthS (nthS (nthS (nthS (nthS (nthS (nthS (nthS (nthS (nth0))))))))))))) (by kernel_rfl) (l' := #[true, true, true, true, true, true, true, true, true, true, true, true, true, false]) rfl ?_
        have hp12 : Below W5.heap.size W5 V7 := ((((hvd.trans (hv6.mono hvd.size)).trans (hv11.mono (hvd.trans (hv6.mono hvd.size)).size)).trans (hv3.mono ((hvd.trans (hv6.mono hvd.size)).trans (hv11.mono (hvd.trans (hv6.mono hvd.size)).size)).size)).trans (hv7.mono (((hvd.trans (hv6.mono hvd.size)).trans (hv11.mono (hvd.trans (hv6.mono hvd.size)).size)).trans (hv3.mono ((hvd.trans (hv6.mono hvd.size)).trans (hv11.mono (hvd.trans (hv6.mono hvd.size)).size)).size)).size))
        have b12 := (bd11.below (hv3.trans (hv7.mono hv3.size)) bd11.lt)
        have c12 := b12.row
        have f12 := b12.frozen
        unfold Row at c12
        have b13 := ((((((b12.set_ 0 (.int .i64 0)).set_ 1 (.int .i64 0)).set_ 2 (.int .i64 0)).set_ 3 (.int .i64 0)).set_ 4 (.int .i64 0)).set_ 5 (.int .i64 0)).set_ 6 (.int .i64 0)
        simp only [List.set_cons_zero, List.set_cons_succ] at b13
        have C13 := Lib.hid b13
        clear b13
        go_wp2_with fail
        generalize hV12 : World.setCell _ _ _ = V12
        have hv12 : Below W5.heap.size V7 V12 := by rw [← hV12]; exact (((((((Below.refl _ _).setCell (p := ⟨g11, 0, none⟩) hgB _).setCell (p := ⟨g11, 1, none⟩) hgB _).setCell (p := ⟨g11, 2, none⟩) hgB _).setCell (p := ⟨g11, 3, none⟩) hgB _).setCell (p := ⟨g11, 4, none⟩) hgB _).setCell (p := ⟨g11, 5, none⟩) hgB _).setCell (p := ⟨g11, 6, none⟩) hgB _
        have C14 : Hid (Blk V12 g11 56 [.int .i64 0, .int .i64 0, .int .i64 0, .int .i64 0, .int .i64 0, .int .i64 0, .int .i64 0]) := Lib.hid (by rw [← hV12]; exact C13.out)
        have HBV : Hid (Below W5.heap.size W5 V12) := Lib.hid (hp12.trans hv12)
        clear hV12 C13 c12 f12 b12
        refine OneR_mk (hv12) ?_
        refine anyR_take0 13 _ (nthS (nthS (nthS (nthS (nthS (nthS (nthS (nthS (nthS (nthS (nthS (nthS (nthS (nth0)))))))))))))) rfl (by kernel_rfl) (by kernel_rfl) (by kernel_rfl) (l' := #[true, true, true, true, true, true, true, true, true, true, true, true, true, true]) rfl rfl ?_; intro K hK; go_big_quiet_op; go_big_quiet_on
        refine anyR_end (by kernel_rfl) ?_
        go_wp2_with fail
        go_meet
        exact ⟨g11, rfl, rfl, HBV.out, C14.out⟩
    · clear xx
      have hp11 : Below W5.heap.size W5 wd := hvd
      go_wp2_with fail
      generalize hV11 : World.alloc _ _ = V11
      have hv11 : Below wd.heap.size wd V11 := by rw [← hV11]; exact (Below.refl _ _).alloc (Nat.le_refl _) _
      have bd11 : Blk V11 wd.heap.size 56 [.int .i64 0, .int .i64 0, .int .i64 0, .int .i64 0, .int .i64 0, .int .i64 0, .int .i64 0] := by rw [← hV11]; exact Blk.new2 _ [.int .i64 0, .int .i64 0, .int .i64 0, .int .i64 0, .int .i64 0, .int .i64 0, .int .i64 0] rfl
      obtain ⟨g11, hg11⟩ : ∃ g11, g11 = wd.heap.size := ⟨_, rfl⟩
      have hgB : W5.heap.size ≤ g11 := by rw [hg11]; exact hp11.size
      rw [← hg11] at bd11 ⊢
      clear hV11 hg11
      refine OneR_mk (hv11.mono hp11.size) ?_
      refine anyR_two 3 6 _ _ (nthS (nthS (nthS (nth0)))) (nthS (nthS (nthS (nthS (nthS (nthS (nth0))))))) (by kernel_rfl) (l1 := #[true, true, true, true, true, true, false, false, false, false, false, true, false, false]) (l2 := #[true, true, true, false, true, true, true, false, false, false, false, true, false, false]) rfl rfl ?_ ?_
      · have hp3 : Below W5.heap.size W5 V11 := (hvd.trans (hv11.mono hvd.size))
        go_wp2_with fail
        generalize hV3 : World.alloc _ _ = V3
        have hv3 : Below V11.heap.size V11 V3 := by rw [← hV3]; exact (Below.refl _ _).alloc (Nat.le_refl _) _
        have bd3 : Blk V3 V11.heap.size 63 [.int .i64 1, .int .i64 0, .int .i64 1, .int .i64 0, .int .i64 7, .bool true, .bool false, .int .i64 0, .int .i64 (-1)] := by rw [← hV3]; exact Blk.new2 _ [.int .i64 1, .int .i64 0, .int .i64 1, .int .i64 0, .int .i64 7, .bool true, .bool false, .int .i64 0, .int .i64 (-1)] rfl
        obtain ⟨g3, hg3⟩ : ∃ g3, g3 = V11.heap.size := ⟨_, rfl⟩
        rw [← hg3] at bd3 ⊢
        clear hV3 hg3
        refine OneR_mk (hv3.mono hp3.size) ?_
        refine anyR_one 6 _ (nthS (nthS (nthS (nthS (nthS (nthS (nth0))))))) (by kernel_rfl) (l' := #[true, true, true, true, true, true, true, false, false, false, false, true, false, false]) rfl ?_
        have hp6 : Below W5.heap.size W5 V3 := ((hvd.trans (hv11.mono hvd.size)).trans (hv3.mono (hvd.trans (hv11.mono hvd.size)).size))
        go_wp2_with fail
        refine (sentS h2 A2 c2 _ (HL5.out _ hp6) HD2.out.1 HD2.out.2.2).mono ?_
        rintro e V6 ⟨hv6, v6, l6, rfl, ho6, hm6⟩
        obtain ⟨h6, hl6⟩ : ∃ h6, l6 = [h6] := List.length_eq_one_iff.1 (by simpa using congrArg List.length hm6)
        subst hl6
        obtain ⟨A6, c6, hv6e, hL6⟩ := ho6.lies
        rw [List.length_singleton] at hv6e
        subst hv6e
        have HD6 : Hid (h6.fl = 7 ∧ h6.fr = 1 ∧ h6.ak = [0]) := Lib.hid (by simp only [List.map_cons, List.map_nil, List.cons.injEq, and_true, Ho.d, Hd.mk.injEq] at hm6; exact ⟨hm6.1, hm6.2.1.trans HD2.out.2.1, hm6.2.2⟩)
        clear ho6 hm6
        go_wp2_with fail
        refine OneR_mk (hv6.mono hp6.size) ?_
        refine anyR_one 7 _ (nthS (nthS (nthS (nthS (nthS (nthS (nthS (nth0)))))))) (by kernel_rfl) (l' := #[true, true, true, true, true, true, true, true, false, false, false, true, false, false]) rfl ?_
        have hp7 : Below W5.heap.size W5 V6 := (((hvd.trans (hv11.mono hvd.size)).trans (hv3.mono (hvd.trans (hv11.mono hvd.size)).size)).trans (hv6.mono ((hvd.trans (hv11.mono hvd.size)).trans (hv3.mono (hvd.trans (hv11.mono hvd.size)).size)).size))
        go_wp2_with fail
        refine (chooseS h6 g3 (some ⟨N, 0, none⟩) A6 1 c6 true _ (HFL.out _ hp7) hL6 HD6.out.1 (by rw [HD6.out.2.2]; rfl) (by show chkH [exF] [⟨h6.fl, h6.fr, h6.ak⟩] = 0; rw [HD6.out.1, HD6.out.2.1, HD6.out.2.2]; exact chk_ex2) (bd3.below hv6 bd3.lt).row (bd3.below hv6 bd3.lt).lt).mono ?_
        rintro e V7 ⟨hv7, rfl⟩
        go_wp2_with fail
        refine OneR_mk (hv7.mono hp7.size) ?_
        refine anyR_take0 8 _ (nthS (nthS (nthS (nthS (nthS (nthS (nthS (nthS (nth0))))))))) rfl (by kernel_rfl) (by kernel_rfl) (by kernel_rfl) (l' := #[true, true, true, true, true, true, true, true, true, false, false, true, false, false]) rfl rfl ?_; intro K hK; go_big_quiet_op; go_big_quiet_on
        refine anyR_take0 9 _ (nthS (nthS (nthS (nthS (nthS (nthS (nthS (nthS (nthS (nth0)))))))))) rfl (by kernel_rfl) (by kernel_rfl) (by kernel_rfl) (l' := #[true, true, true, true, true, true, true, true, true, true, false, true, false, false]) rfl rfl ?_; intro K hK; go_big_quiet_op; go_big_quiet_on
        refine anyR_take0 10 _ (nthS (nthS (nthS (nthS (nthS (nthS (nthS (nthS (nthS (nthS (nth0))))))))))) rfl (by kernel_rfl) (by kernel_rfl) (by kernel_rfl) (l' := #[true, true, true, true, true, true, true, true, true, true, true, true, false, false]) rfl rfl ?_; intro K hK; go_big_quiet_op; go_big_quiet_on
        refine anyR_one 12 _ (nthS (nthS (nthS (nthS (nthS (nthS (nthS (nthS (nthS (nthS (nthS (nthS (nth0))))))))))))) (by kernel_rfl) (l' := #[true, true, true, true, true, true, true, true, true, true, true, true, true, false]) rfl ?_
        have hp12 : Below W5.heap.size W5 V7 := ((((hvd.trans (hv11.mono hvd.size)).trans (hv3.mono (hvd.trans (hv11.mono hvd.size)).size)).trans (hv6.mono ((hvd.trans (hv11.mono hvd.size)).trans (hv3.mono (hvd.trans (hv11.mono hvd.size)).size)).size)).trans (hv7.mono (((hvd.trans (hv11.mono hvd.size)).trans (hv3.mono (hvd.trans (hv11.mono hvd.size)).size)).trans (hv6.mono ((hvd.trans (hv11.mono hvd.size)).trans (hv3.mono (hvd.trans (hv11.mono hvd.size)).size)).size)).size))
        have b12 := (bd11.below ((hv3.trans (hv6.mono hv3.size)).trans (hv7.mono (hv3.trans (hv6.mono hv3.size)).size)) bd11.lt)
        have c12 := b12.row
        have f12 := b12.frozen
        unfold Row at c12
        have b13 := ((((((b12.set_ 0 (.int .i64 0)).set_ 1 (.int .i64 0)).set_ 2 (.int .i64 0)).set_ 3 (.int .i64 0)).set_ 4 (.int .i64 0)).set_ 5 (.int .i64 0)).set_ 6 (.int .i64 0)
        simp only [List.set_cons_zero, List.set_cons_succ] at b13
        have C13 := Lib.hid b13
        clear b13
        go_wp2_with fail
        generalize hV12 : World.setCell _ _ _ = V12
        have hv12 : Below W5.heap.size V7 V12 := by rw [← hV12]; exact (((((((Below.refl _ _).setCell (p := ⟨g11, 0, none⟩) hgB _).setCell (p := ⟨g11, 1, none⟩) hgB _).setCell (p := ⟨g11, 2, none⟩) hgB _).setCell (p := ⟨g11, 3, none⟩) hgB _).setCell (p := ⟨g11, 4, none⟩) hgB _).setCell (p := ⟨g11, 5, none⟩) hgB _).setCell (p := ⟨g11, 6, none⟩) hgB _
        have C14 : Hid (Blk V12 g11 56 [.int .i64 0, .int .i64 0, .int .i64 0, .int .i64 0, .int .i64 0, .int .i64 0, .int .i64 0]) := Lib.hid (by rw [← hV12]; exact C13.out)
        have HBV : Hid (Below W5.heap.size W5 V12) := Lib.hid (hp12.trans hv12)
        clear hV12 C13 c12 f12 b12
        refine OneR_mk (hv12) ?_
        refine anyR_take0 13 _ (nthS (nthS (nthS (nthS (nthS (nthS (nthS (nthS (nthS (nthS (nthS (nthS (nthS (nth0)))))))))))))) rfl (by kernel_rfl) (by kernel_rfl) (by kernel_rfl) (l' := #[true, true, true, true, true, true, true, true, true, true, true, true, true, true]) rfl rfl ?_; intro K hK; go_big_quiet_op; go_big_quiet_on
        refine anyR_end (by kernel_rfl) ?_
        go_wp2_with fail
        go_meet
        exact ⟨g11, rfl, rfl, HBV.out, C14.out⟩
      · have hp6 : Below W5.heap.size W5 V11 := (hvd.trans (hv11.mono hvd.size))
        go_wp2_with fail
        refine (sentS h2 A2 c2 _ (HL5.out _ hp6) HD2.out.1 HD2.out.2.2).mono ?_
        rintro e V6 ⟨hv6, v6, l6, rfl, ho6, hm6⟩
        obtain ⟨h6, hl6⟩ : ∃ h6, l6 = [h6] := List.length_eq_one_iff.1 (by simpa using congrArg List.length hm6)
        subst hl6
        obtain ⟨A6, c6, hv6e, hL6⟩ := ho6.lies
        rw [List.length_singleton] at hv6e
        subst hv6e
        have HD6 : Hid (h6.fl = 7 ∧ h6.fr = 1 ∧ h6.ak = [0]) := Lib.hid (by simp only [List.map_cons, List.map_nil, List.cons.injEq, and_true, Ho.d, Hd.mk.injEq] at hm6; exact ⟨hm6.1, hm6.2.1.trans HD2.out.2.1, hm6.2.2⟩)
        clear ho6 hm6
        go_wp2_with fail
        refine OneR_mk (hv6.mono hp6.size) ?_
        refine anyR_one 3 _ (nthS (nthS (nthS (nth0)))) (by kernel_rfl) (l' := #[true, true, true, true, true, true, true, false, false, false, false, true, false, false]) rfl ?_
        have hp3 : Below W5.heap.size W5 V6 := ((hvd.trans (hv11.mono hvd.size)).trans (hv6.mono (hvd.trans (hv11.mono hvd.size)).size))
        go_wp2_with fail
        generalize hV3 : World.alloc _ _ = V3
        have hv3 : Below V6.heap.size V6 V3 := by rw [← hV3]; exact (Below.refl _ _).alloc (Nat.le_refl _) _
        have bd3 : Blk V3 V6.heap.size 63 [.int .i64 1, .int .i64 0, .int .i64 1, .int .i64 0, .int .i64 7, .bool true, .bool false, .int .i64 0, .int .i64 (-1)] := by rw [← hV3]; exact Blk.new2 _ [.int .i64 1, .int .i64 0, .int .i64 1, .int .i64 0, .int .i64 7, .bool true, .bool false, .int .i64 0, .int .i64 (-1)] rfl
        obtain ⟨g3, hg3⟩ : ∃ g3, g3 = V6.heap.size := ⟨_, rfl⟩
        rw [← hg3] at bd3 ⊢
        clear hV3 hg3
        refine OneR_mk (hv3.mono hp3.size) ?_
        refine anyR_one 7 _ (nthS (nthS (nthS (nthS (nthS (nthS (nthS (nth0)))))))) (by kernel_rfl) (l' := #[true, true, true, true, true, true, true, true, false, false, false, true, false, false]) rfl ?_
        have hp7 : Below W5.heap.size W5 V3 := (((hvd.trans (hv11.mono hvd.size)).trans (hv6.mono (hvd.trans (hv11.mono hvd.size)).size)).trans (hv3.mono ((hvd.trans (hv11.mono hvd.size)).trans (hv6.mono (hvd.trans (hv11.mono hvd.size)).size)).size))
        go_wp2_with fail
        refine (chooseS h6 g3 (some ⟨N, 0, none⟩) A6 1 c6 true _ (HFL.out _ hp7) (hL6.later hv3) HD6.out.1 (by rw [HD6.out.2.2]; rfl) (by show chkH [exF] [⟨h6.fl, h6.fr, h6.ak⟩] = 0; rw [HD6.out.1, HD6.out.2.1, HD6.out.2.2]; exact chk_ex2) bd3.row bd3.lt).mono ?_
        rintro e V7 ⟨hv7, rfl⟩
        go_wp2_with fail
        refine OneR_mk (hv7.mono hp7.size) ?_
        refine anyR_take0 8 _ (nthS (nthS (nthS (nthS (nthS (nthS (nthS (nthS (nth0))))))))) rfl (by kernel_rfl) (by kernel_rfl) (by kernel_rfl) (l' := #[true, true, true, true, true, true, true, true, true, false, false, true, false, false]) rfl rfl ?_; intro K hK; go_big_quiet_op; go_big_quiet_on
        refine anyR_take0 9 _ (nthS (nthS (nthS (nthS (nthS (nthS (nthS (nthS (nthS (nth0)))))))))) rfl (by kernel_rfl) (by kernel_rfl) (by kernel_rfl) (l' := #[true, true, true, true, true, true, true, true, true, true, false, true, false, false]) rfl rfl ?_; intro K hK; go_big_quiet_op; go_big_quiet_on
        refine anyR_take0 10 _ (nthS (nthS (nthS (nthS (nthS (nthS (nthS (nthS (nthS (nthS (nth0))))))))))) rfl (by kernel_rfl) (by kernel_rfl) (by kernel_rfl) (l' := #[true, true, true, true, true, true, true, true, true, true, true, true, false, false]) rfl rfl ?_; intro K hK; go_big_quiet_op; go_big_quiet_on
        refine anyR_one 12 _ (nthS (nthS (nthS (nthS (nthS (nthS (nthS (nthS (nthS (nthS (nthS (nthS (nth0))))))))))))) (by kernel_rfl) (l' := #[true, true, true, true, true, true, true, true, true, true, true, true, true, false]) rfl ?_
        have hp12 : Below W5.heap.size W5 V7 := ((((hvd.trans (hv11.mono hvd.size)).trans (hv6.mono (hvd.trans (hv11.mono hvd.size)).size)).trans (hv3.mono ((hvd.trans (hv11.mono hvd.size)).trans (hv6.mono (hvd.trans (hv11.mono hvd.size)).size)).size)).trans (hv7.mono (((hvd.trans (hv11.mono hvd.size)).trans (hv6.mono (hvd.trans (hv11.mono hvd.size)).size)).trans (hv3.mono ((hvd.trans (hv11.mono hvd.size)).trans (hv6.mono (hvd.trans (hv11.mono hvd.size)).size)).size)).size))
        have b12 := (bd11.below ((hv6.trans (hv3.mono hv6.size)).trans (hv7.mono (hv6.trans (hv3.mono hv6.size)).size)) bd11.lt)
        have c12 := b12.row
        have f12 := b12.frozen
        unfold Row at c12
        have b13 := ((((((b12.set_ 0 (.int .i64 0)).set_ 1 (.int .i64 0)).set_ 2 (.int .i64 0)).set_ 3 (.int .i64 0)).set_ 4 (.int .i64 0)).set_ 5 (.int .i64 0)).set_ 6 (.int .i64 0)
        simp only [List.set_cons_zero, List.set_cons_succ] at b13
        have C13 := Lib.hid b13
        clear b13
        go_wp2_with fail
        generalize hV12 : World.setCell _ _ _ = V12
        have hv12 : Below W5.heap.size V7 V12 := by rw [← hV12]; exact (((((((Below.refl _ _).setCell (p := ⟨g11, 0, none⟩) hgB _).setCell (p := ⟨g11, 1, none⟩) hgB _).setCell (p := ⟨g11, 2, none⟩) hgB _).setCell (p := ⟨g11, 3, none⟩) hgB _).setCell (p := ⟨g11, 4, none⟩) hgB _).setCell (p := ⟨g11, 5, none⟩) hgB _).setCell (p := ⟨g11, 6, none⟩) hgB _
        have C14 : Hid (Blk V12 g11 56 [.int .i64 0, .int .i64 0, .int .i64 0, .int .i64 0, .int .i64 0, .int .i64 0, .int .i64 0]) := Lib.hid (by rw [← hV12]; exact C13.out)
        have HBV : Hid (Below W5.heap.size W5 V12) := Lib.hid (hp12.trans hv12)
        clear hV12 C13 c12 f12 b12
        refine OneR_mk (hv12) ?_
        refine anyR_take0 13 _ (nthS (nthS (nthS (nthS (nthS (nthS (nthS (nthS (nthS (nthS (nthS (nthS (nthS (nth0)))))))))))))) rfl (by kernel_rfl) (by kernel_rfl) (by kernel_rfl) (l' := #[true, true, true, true, true, true, true, true, true, true, true, true, true, true]) rfl rfl ?_; intro K hK; go_big_quiet_op; go_big_quiet_on
        refine anyR_end (by kernel_rfl) ?_
        go_wp2_with fail
        go_meet
        exact ⟨g11, rfl, rfl, HBV.out, C14.out⟩
  case rest =>
    obtain ⟨g7, rfl, rfl, hbc, b7⟩ := hcut
    have hBc := HW5.out _ hbc
    have hWc := HW.out _ hBc
    have cC := hWc.2.2.2.row
    unfold Row at cC
    have HH1 := Lib.hid (by have := hear_any [exF] [] (some ⟨N, 0, none⟩) none 1 0 0 9 1 0 1 0 7 1 wc (HF.out _ hBc) (by simp) (liesH_nil _ _ _) (by simp); rw [List.map_nil, hear_ex1] at this; exact this : Calls Try.prog 9 #[.slice (some ⟨N, 0, none⟩) 1 1, .int .i64 0, .int .i64 9, .slice none 0 0, .agg #[.int .i64 1, .int .i64 0, .int .i64 1, .int .i64 0, .int .i64 7], .int .i64 1] wc fun e w' => Below wc.heap.size wc w' ∧ ∃ v l', e = .returned (.tuple #[v, .bool true, .int .i64 0]) ∧ OutH w' wc.heap.size v l' ∧ l'.map Ho.d = [⟨7, 1, []⟩])
    have B7 := Lib.hid b7
    have HL9 := Lib.hid (fun W (h' : Below wc.heap.size wc W) => HL5.out W (hbc.trans (h'.mono hbc.size)))
    have HI5 := Lib.hid (fun W (h' : Below wc.heap.size wc W) => (show Blk W g5 56 [.int .i64 1, .int .i64 1, .int .i64 0, .int .i64 1, .int .i64 0, .int .i64 7, .int .i64 1] ∧ Blk W g7 56 [.int .i64 0, .int .i64 0, .int .i64 0, .int .i64 0, .int .i64 0, .int .i64 0, .int .i64 0] from ⟨HB5.out W (hbc.trans (h'.mono hbc.size)), b7.below h' b7.lt⟩))
    clear b7 rC
    go_wp2_with fail
    refine HH1.out.mono ?_
    rintro e w6 ⟨hb6, v6, l6, rfl, ho6, hm6⟩
    obtain ⟨h6, hl6, hd6⟩ := one_of hm6
    subst hl6
    obtain ⟨A6, c6, hv6, hL6⟩ := ho6.lies
    rw [List.length_singleton] at hv6
    subst hv6
    have hB6 : Below M W1 w6 := hBc.trans (hb6.mono hWc.2.1)
    have hW6 := HW.out _ hB6
    have HL6 := Lib.hid (fun W (h' : Below w6.heap.size w6 W) => hL6.later h')
    have HM6 : Hid ([h6].map Ho.d = [⟨7, 1, []⟩]) := Lib.hid hm6
    clear ho6 hm6 hd6 hL6 HH1 cC
    have cC := hW6.2.2.2.row
    unfold Row at cC
    have HH2 := Lib.hid (by have := hear_any [exF] [h6] (some ⟨N, 0, none⟩) A6 1 c6 0 10 1 0 1 0 7 1 w6 (HF.out _ hB6) (by simp) (HL6.out _ (Below.refl _ _)) (by simp); rw [HM6.out, hear_ex2] at this; exact this : Calls Try.prog 9 #[.slice (some ⟨N, 0, none⟩) 1 1, .int .i64 0, .int .i64 10, .slice A6 1 c6, .agg #[.int .i64 1, .int .i64 0, .int .i64 1, .int .i64 0, .int .i64 7], .int .i64 1] w6 fun e w' => Below w6.heap.size w6 w' ∧ ∃ v l', e = .returned (.tuple #[v, .bool false, .int .i64 0]) ∧ OutH w' w6.heap.size v l' ∧ l'.map Ho.d = [⟨7, 1, []⟩])
    go_wp2_with fail
    refine HH2.out.mono ?_
    rintro e w7 ⟨hb7, v7, l7, rfl, ho7, hm7⟩
    obtain ⟨h7, hl7, hd7⟩ := one_of hm7
    subst hl7
    obtain ⟨A7, c7, hv7, hL7⟩ := ho7.lies
    rw [List.length_singleton] at hv7
    subst hv7
    have hB7 : Below M W1 w7 := hB6.trans (hb7.mono hW6.2.1)
    have hW7 := HW.out _ hB7
    clear ho7 hm7 hd7 hL7 HH2 cC
    have HBg := Lib.hid (by have := begin_any [exF] [h6] (some ⟨N, 0, none⟩) A6 1 c6 0 16 w7 (HF.out _ hB7) (by simp) (HL6.out _ hb7) (by simp); rw [HM6.out, beg_ex2] at this; exact this : Calls Try.prog 14 #[.slice (some ⟨N, 0, none⟩) 1 1, .int .i64 0, .int .i64 16, .slice A6 1 c6] w7 fun e w' => Below w7.heap.size w7 w' ∧ ∃ v l', e = .returned (.tuple #[v, .int .i64 0]) ∧ OutH w' w7.heap.size v l' ∧ l'.map Ho.d = [])
    go_wp2_with fail
    refine HBg.out.mono ?_
    rintro e w8 ⟨hb8, v8, l8, rfl, ho8, hm8⟩
    have hl8 : l8 = [] := by simpa using hm8
    subst hl8
    obtain ⟨A8, c8, hv8, _⟩ := ho8.lies
    rw [List.length_nil] at hv8
    subst hv8
    have hbc8 : Below wc.heap.size wc w8 := (hb6.trans (hb7.mono hb6.size)).trans (hb8.mono (hb6.trans (hb7.mono hb6.size)).size)
    have hB8 : Below M W1 w8 := hBc.trans (hbc8.mono hWc.2.1)
    have hW8 := HW.out _ hB8
    have cC := hW8.2.2.2.row
    have i5 := (HI5.out _ hbc8).1.row
    have i7 := (HI5.out _ hbc8).2.row
    obtain ⟨b, off, hAe, _, hcs⟩ := (HL9.out _ hbc8).1.at_ (k := 0) (a := h2) rfl
    have c1 := hcs 0 h2 rfl 1 _ rfl
    rw [HD2.out.2.1] at c1
    simp only [Nat.zero_mul, Nat.add_zero] at c1
    unfold Row at cC i5 i7
    subst hAe
    clear ho8 hm8 HBg hcs
    go_wp2_with fail
    go_ret
    exact ⟨rfl, hW8.1⟩
end Go.Proofs.Ytepamedbbbfjkaa
