/- RecordCuts: Cut and Join return what the reference returns. -/
import Derived.Test.YtllakkepphpfmaaOpen
import Derived.Test.YtllakkepphpfmaaRcut
import Derived.Test.YtllakkepphpfmaaRjoin
namespace Go.Proofs.Ytllakkepphpfmaa
open Go.RowKit
open Rc

theorem own_nilA {w : World} {base n c : Nat} {A : Option Addr} {l : List Att} (h : w.ownsRow base 45 8 (.slice A n c) l.length (flatA l)) : A = none → l = [] := fun hA => by
  subst hA
  rcases h.2 with ⟨_, h0⟩ | ⟨g, cap, cur, hv, _⟩
  · exact List.eq_nil_of_length_eq_zero h0
  · cases hv
theorem own_nilD {w : World} {base n c : Nat} {A : Option Addr} {l : List Dlv} (h : w.ownsRow base 62 3 (.slice A n c) l.length (flatD l)) : A = none → l = [] := fun hA => by
  subst hA
  rcases h.2 with ⟨_, h0⟩ | ⟨g, cap, cur, hv, _⟩
  · exact List.eq_nil_of_length_eq_zero h0
  · cases hv
/-- A record's block is none of a list's. -/
theorem LiesA.setRec {w w' : World} {B B' G n1 c1 : Nat} {t : TypeId} {A a1 : Option Addr} {l : List Att} {x0 x2 : Value} (h : LiesA w B A l) (hG : Blk w G t [x0, .slice a1 n1 c1, x2]) (hB : B ≤ B') (hk : ∀ p : Addr, p.block ≠ G → w'.cell? p = w.cell? p) : LiesA w' B' A l := by
  intro hne
  obtain ⟨b, off, e, hb, hc⟩ := h hne
  refine ⟨b, off, e, by omega, fun k row hr j u hu => (hk _ ?_).trans (hc k row hr j u hu)⟩
  intro hbG
  dsimp only at hbG
  subst hbG
  rw [List.getElem?_map] at hr
  cases hl : l[k]? with
  | none => rw [hl] at hr; cases hr
  | some a =>
    have h7 := hc k a.row (by rw [List.getElem?_map, hl]; rfl) 7 _ rfl
    rw [hG.row] at h7
    rw [List.getElem?_eq_none (by simp)] at h7
    cases h7
theorem LiesD.setRec {w w' : World} {B B' G n1 c1 : Nat} {t : TypeId} {A a1 : Option Addr} {l : List Dlv} {x0 x2 : Value} (h : LiesD w B A l) (hG : Blk w G t [x0, .slice a1 n1 c1, x2]) (hB : B ≤ B') (hk : ∀ p : Addr, p.block ≠ G → w'.cell? p = w.cell? p) : LiesD w' B' A l := by
  intro hne
  obtain ⟨b, off, e, hb, hc⟩ := h hne
  refine ⟨b, off, e, by omega, fun k row hr j u hu => (hk _ ?_).trans (hc k row hr j u hu)⟩
  intro hbG
  dsimp only at hbG
  subst hbG
  rw [List.getElem?_map] at hr
  cases hl : l[k]? with
  | none => rw [hl] at hr; cases hr
  | some a =>
    have hrow : (l.map Dlv.row)[k]? = some a.row := by rw [List.getElem?_map, hl]; rfl
    have h2 := hc k a.row hrow 2 _ rfl
    rw [hG.row] at h2
    have hlt : off + k * 3 + 2 < 3 := by
      rcases Nat.lt_or_ge (off + k * 3 + 2) 3 with h | h
      · exact h
      · rw [List.getElem?_eq_none (by simp; omega)] at h2; cases h2
    have h1 := hc k a.row hrow 1 _ rfl
    rw [hG.row, show off + k * 3 + 1 = 1 by omega] at h1
    simp at h1
theorem set3_far {w : World} {G : Nat} {u0 u1 u2 : Value} : ∀ p : Addr, p.block ≠ G → (((w.setCell ⟨G, 0, none⟩ u0).setCell ⟨G, 1, none⟩ u1).setCell ⟨G, 2, none⟩ u2).cell? p = w.cell? p := fun p hp => by
  rw [World.cell?_setCell_other _ _ _ _ (fun e => hp (by rw [← e])), World.cell?_setCell_other _ _ _ _ (fun e => hp (by rw [← e])), World.cell?_setCell_other _ _ _ _ (fun e => hp (by rw [← e]))]
theorem cutR_len (a : Rec) (n : Int) : (cutR a n).al.length ≤ a.al.length ∧ (cutR a n).dl.length ≤ a.dl.length := by
  unfold cutR
  split
  · split
    · simp
    · exact ⟨List.length_filter_le _ _, List.length_filter_le _ _⟩
  · simp
theorem joinR_len (a b : Rec) : (joinR a b).al.length ≤ a.al.length + b.al.length ∧ (joinR a b).dl.length ≤ a.dl.length + b.dl.length := by
  unfold joinR
  split
  · split
    · split
      · simp
      · simp
    · simp
  · simp

set_option maxRecDepth 100000 in
set_option maxHeartbeats 8000000 in
theorem recordCuts_walk (a b : Rec) (A D A' D' : Option Addr) (ca cd ca' cd' : Nat) (n : Int) (w : World) (hr : RecIn w a A D) (hr' : RecIn w b A' D') :
    Calls Try.prog 8 #[.agg #[.int .i64 a.slots, .slice A a.al.length ca, .slice D a.dl.length cd], .agg #[.int .i64 b.slots, .slice A' b.al.length ca', .slice D' b.dl.length cd'], .int .i64 n] w fun e w' => e = .returned (.bool true) ∧ Below w.heap.size w w' := by
  obtain ⟨hA, hD, hm1, hm2, hnA, hnD⟩ := hr
  obtain ⟨hA', hD', hm1', hm2', hnA', hnD'⟩ := hr'
  have HF := Lib.hid (fun W => few_any a A D ca cd W hm1 hm2)
  have HF' := Lib.hid (fun W => few_any b A' D' ca' cd' W hm1' hm2')
  have HnA := Lib.hid hnA
  have HnD := Lib.hid hnD
  have HnA' := Lib.hid hnA'
  have HnD' := Lib.hid hnD'
  clear hnA hnD hnA' hnD'
  go_enter Try.func8, Try.ntmps8
  go_wp2_with fail
  generalize hW1 : World.alloc _ _ = W1
  have bA : Blk W1 w.heap.size 28 [.int .i64 a.slots, .slice A a.al.length ca, .slice D a.dl.length cd] := by rw [← hW1]; exact (Blk.new' _ [.int .i64 a.slots, .slice A a.al.length ca, .slice D a.dl.length cd] rfl).alloc _
  have bB : Blk W1 (w.heap.size + 1) 28 [.int .i64 b.slots, .slice A' b.al.length ca', .slice D' b.dl.length cd'] := by rw [← hW1]; exact Blk.new' _ [.int .i64 b.slots, .slice A' b.al.length ca', .slice D' b.dl.length cd'] (by simp)
  have hb1 : Below w.heap.size w W1 := by rw [← hW1]; exact ((Below.refl _ _).alloc (Nat.le_refl _) _).alloc (by simp) _
  clear hW1
  obtain ⟨N, hN⟩ : ∃ N, N = w.heap.size := ⟨_, rfl⟩
  rw [← hN] at bA bB hb1 hA hD hA' hD' ⊢
  obtain ⟨M, hM⟩ : ∃ M, M = W1.heap.size := ⟨_, rfl⟩
  have hNM : N + 1 < M := by rw [hM]; exact bB.lt
  have HNM : N + 1 + 1 ≤ M := by omega
  have LA : Hid (∀ W, Below M W1 W → LiesA W W.heap.size A a.al ∧ LiesD W W.heap.size D a.dl ∧ LiesA W W.heap.size A' b.al ∧ LiesD W W.heap.size D' b.dl) := Lib.hid fun W h =>
    ⟨((hA.below hb1).below_le h (by omega)).more (by have := h.size; omega), ((hD.below hb1).below_le h (by omega)).more (by have := h.size; omega), ((hA'.below hb1).below_le h (by omega)).more (by have := h.size; omega), ((hD'.below hb1).below_le h (by omega)).more (by have := h.size; omega)⟩
  have HRA : Hid (∀ W, Below M W1 W → Row W N [.int .i64 a.slots, .slice A a.al.length ca, .slice D a.dl.length cd] ∧ Row W (N + 1) [.int .i64 b.slots, .slice A' b.al.length ca', .slice D' b.dl.length cd']) := Lib.hid fun W h => ⟨(bA.below h (by omega)).row, (bB.below h (by omega)).row⟩
  have HW : Hid (∀ W, Below M W1 W → Below N w W ∧ M ≤ W.heap.size) := Lib.hid fun W h => ⟨hb1.trans (h.mono (by omega)), by have := h.size; omega⟩
  have HN := Lib.hid hN
  clear hN hA hD hA' hD' bA bB hb1
  refine (awake_any W1).mono ?_
  rintro e w2 ⟨rfl, hb2⟩
  rw [← hM] at hb2
  clear hM
  have r2 := (HRA.out _ hb2).1
  unfold Row at r2
  go_wp2_with fail
  refine (HF.out w2).mono ?_
  rintro e w3 ⟨rfl, hb3⟩
  have hb3' : Below M W1 w3 := hb2.trans (hb3.mono (HW.out _ hb2).2)
  clear r2 hb2 hb3
  by_cases hfew : a.al.length ≤ 150 ∧ a.dl.length ≤ 100
  case neg =>
    have hf : (decide (a.al.length ≤ 150) && decide (a.dl.length ≤ 100)) = false := by
      rw [Bool.eq_false_iff]; intro h; exact hfew (by simpa using h)
    rw [hf]
    clear hf hfew
    go_wp2_with fail
    refine (awake_any w3).mono ?_
    rintro e w4 ⟨rfl, hb4⟩
    have hb4' : Below M W1 w4 := hb3'.trans (hb4.mono (HW.out _ hb3').2)
    go_wp2_with fail
    go_ret
    exact ⟨rfl, by rw [← HN.out]; exact (HW.out _ hb4').1⟩
  have hf : (decide (a.al.length ≤ 150) && decide (a.dl.length ≤ 100)) = true := by simpa using hfew
  rw [hf]
  clear hf
  have r3 := (HRA.out _ hb3').2
  unfold Row at r3
  go_wp2_with fail
  refine (HF'.out w3).mono ?_
  rintro e w4 ⟨rfl, hb4⟩
  have hb4' : Below M W1 w4 := hb3'.trans (hb4.mono (HW.out _ hb3').2)
  clear r3 hb3' hb4
  by_cases hfew' : b.al.length ≤ 150 ∧ b.dl.length ≤ 100
  case neg =>
    have hf : (decide (b.al.length ≤ 150) && decide (b.dl.length ≤ 100)) = false := by
      rw [Bool.eq_false_iff]; intro h; exact hfew' (by simpa using h)
    rw [hf]
    clear hf hfew'
    go_wp2_with fail
    refine (awake_any w4).mono ?_
    rintro e w5 ⟨rfl, hb5⟩
    have hb5' : Below M W1 w5 := hb4'.trans (hb5.mono (HW.out _ hb4').2)
    go_wp2_with fail
    go_ret
    exact ⟨rfl, by rw [← HN.out]; exact (HW.out _ hb5').1⟩
  have hf : (decide (b.al.length ≤ 150) && decide (b.dl.length ≤ 100)) = true := by simpa using hfew'
  rw [hf]
  clear hf
  have la1 : a.al.length ≤ 1000000 := by omega
  have la2 : a.dl.length ≤ 1000000 := by omega
  have lb1 : b.al.length ≤ 1000000 := by omega
  have lb2 : b.dl.length ≤ 1000000 := by omega
  obtain ⟨lc1, lc2⟩ := cutR_len a n
  obtain ⟨lj1, lj2⟩ := joinR_len a b
  obtain ⟨C, hC⟩ : ∃ C, C = cutR a n := ⟨_, rfl⟩
  obtain ⟨EC, hEC⟩ : ∃ EC, EC = cutE a n := ⟨_, rfl⟩
  obtain ⟨J, hJ⟩ : ∃ J, J = joinR a b := ⟨_, rfl⟩
  obtain ⟨EJ, hEJ⟩ : ∃ EJ, EJ = joinE a b := ⟨_, rfl⟩
  rw [← hC] at lc1 lc2
  rw [← hJ] at lj1 lj2
  have HC := Lib.hid hC
  have HEC := Lib.hid hEC
  have HJ := Lib.hid hJ
  have HEJ := Lib.hid hEJ
  clear hC hEC hJ hEJ
  have r4 := (HRA.out _ hb4').1
  unfold Row at r4
  go_wp2_with fail
  refine (cp_any a A D ca cd w4 (LA.out _ hb4').1 (LA.out _ hb4').2.1 la1 la2 HnA.out HnD.out).mono ?_
  rintro e w5 ⟨hb5, A5, D5, ca5, cd5, rfl, oA5, oD5⟩
  have lA5 := own_A oA5
  have lD5 := own_D oD5
  have hb5' : Below M W1 w5 := hb4'.trans (hb5.mono (HW.out _ hb4').2)
  clear r4 hb4' hb5 oA5 oD5
  have hcut := cut_any a A5 D5 ca5 cd5 n w5 lA5 lD5 la1 la2
  rw [← HC.out, ← HEC.out] at hcut
  have HCut := Lib.hid hcut
  clear hcut
  go_wp2_with fail
  refine HCut.out.mono ?_
  rintro e w6 ⟨hb6, A6, D6, ca6, cd6, rfl, lA6, lD6⟩
  have hb6' : Below M W1 w6 := hb5'.trans (hb6.mono (HW.out _ hb5').2)
  clear HCut hb5' hb6 lA5 lD5
  have r6 := (HRA.out _ hb6').1
  have z6 : N < w6.heap.size := by have := (HW.out _ hb6').2; omega
  unfold Row at r6
  go_wp2_with fail
  generalize hX : World.alloc _ _ = w6a
  have bX : Blk w6a w6.heap.size 28 [.int .i64 C.slots, .slice A6 C.al.length ca6, .slice D6 C.dl.length cd6] := by rw [← hX]; exact Blk.new' _ [.int .i64 C.slots, .slice A6 C.al.length ca6, .slice D6 C.dl.length cd6] rfl
  have hxa : Below w6.heap.size w6 w6a := by rw [← hX]; exact (Below.refl _ _).alloc (Nat.le_refl _) _
  have lAx := (lA6.below hxa).more hxa.size
  have lDx := (lD6.below hxa).more hxa.size
  have hb6a : Below M W1 w6a := hb6'.trans (hxa.mono (HW.out _ hb6').2)
  obtain ⟨X, hXe⟩ : ∃ X, X = w6.heap.size := ⟨_, rfl⟩
  rw [← hXe] at bX ⊢
  have hNX : N + 1 + 1 ≤ X := by have := (HW.out _ hb6').2; omega
  clear hX hxa lA6 lD6 r6 hXe hb6' z6
  have hrc := rcut_any a A D ca cd n w6a (LA.out _ hb6a).1 (LA.out _ hb6a).2.1 la1 la2
  rw [← HC.out, ← HEC.out] at hrc
  have HRC := Lib.hid hrc
  clear hrc
  refine HRC.out.mono ?_
  rintro e w6b ⟨hb6b', A7, D7, ca7, cd7, rfl, lA7, lD7⟩
  have hb6b : Below M W1 w6b := hb6a.trans (hb6b'.mono (HW.out _ hb6a).2)
  have bXb := bX.below hb6b' bX.lt
  have lAxb := (lAx.below hb6b').more hb6b'.size
  have lDxb := (lDx.below hb6b').more hb6b'.size
  clear HRC hb6b' bX lAx lDx hb6a
  go_wp2_with fail
  generalize hY : World.alloc _ _ = w7
  have bY : Blk w7 w6b.heap.size 28 [.int .i64 C.slots, .slice A7 C.al.length ca7, .slice D7 C.dl.length cd7] := by rw [← hY]; exact Blk.new' _ [.int .i64 C.slots, .slice A7 C.al.length ca7, .slice D7 C.dl.length cd7] rfl
  have hya : Below w6b.heap.size w6b w7 := by rw [← hY]; exact (Below.refl _ _).alloc (Nat.le_refl _) _
  have bX7 := bXb.below hya bXb.lt
  have l1 := (lAxb.below hya).more hya.size
  have l2 := (lDxb.below hya).more hya.size
  have l3 := (lA7.below hya).more hya.size
  have l4 := (lD7.below hya).more hya.size
  have hb7 : Below M W1 w7 := hb6b.trans (hya.mono (HW.out _ hb6b).2)
  obtain ⟨Y, hYe⟩ : ∃ Y, Y = w6b.heap.size := ⟨_, rfl⟩
  rw [← hYe] at bY ⊢
  clear hY hya hYe lAxb lDxb lA7 lD7 bXb hb6b
  obtain ⟨K, hK⟩ : ∃ K, K = w7.heap.size := ⟨_, rfl⟩
  have hXK : X < K := by rw [hK]; exact bX7.lt
  have hYK : Y < K := by rw [hK]; exact bY.lt
  rw [← hK] at l1 l2 l3 l4
  have HXY : Hid (∀ W, Below K w7 W → Row W X [.int .i64 C.slots, .slice A6 C.al.length ca6, .slice D6 C.dl.length cd6] ∧ Row W Y [.int .i64 C.slots, .slice A7 C.al.length ca7, .slice D7 C.dl.length cd7] ∧ LiesA W W.heap.size A6 C.al ∧ LiesD W W.heap.size D6 C.dl ∧ LiesA W W.heap.size A7 C.al ∧ LiesD W W.heap.size D7 C.dl ∧ Below M W1 W ∧ K ≤ W.heap.size) := Lib.hid fun W h => by
    have hz : K ≤ W.heap.size := by have := h.size; omega
    exact ⟨(bX7.below h hXK).row, (bY.below h hYK).row, (l1.below h).more hz, (l2.below h).more hz, (l3.below h).more hz, (l4.below h).more hz, hb7.trans (h.mono (by have := (HW.out _ hb7).2; omega)), hz⟩
  have HK := Lib.hid hK
  clear l1 l2 l3 l4 bX7 bY hK
  obtain ⟨Mid, hMid⟩ : ∃ Mid : Value → World → Prop, Mid = fun s11 W => ∃ (G : Nat) (A8 D8 : Option Addr) (ca8 cd8 : Nat), s11 = .pointer (some ⟨G, 0, none⟩) ∧ Blk W G 28 [.int .i64 J.slots, .slice A8 J.al.length ca8, .slice D8 J.dl.length cd8] ∧ LiesA W W.heap.size A8 J.al ∧ LiesD W W.heap.size D8 J.dl ∧ Below K w7 W := ⟨_, rfl⟩
  have HMid := Lib.hid hMid
  clear hMid
  go_upto_region 5 with fail
  go_cut [11, 12] (fun s11 s12 W => Mid s11 W ∧ s12 = .int .i64 EJ)
  case first =>
    obtain ⟨y0, hy0⟩ : ∃ y0 : World, y0 = w7.drew := ⟨_, rfl⟩
    have B0 : Below M W1 y0 := by rw [hy0]; exact hb7.drew
    have Z0 : M ≤ y0.heap.size := (HW.out _ B0).2
    have Q0 : Below K w7 y0 := by rw [hy0]; exact (Below.refl _ _).drew
    have X0 : K ≤ y0.heap.size := (HXY.out _ Q0).2.2.2.2.2.2.2
    have xN : ∀ (x : ExtW (N + 1 + 1) y0) (i : Nat), x.val.cell? ⟨N, i, none⟩ = _ := (HRA.out _ B0).1.ext (by omega)
    have xN1 : ∀ (x : ExtW (N + 1 + 1) y0) (i : Nat), x.val.cell? ⟨N + 1, i, none⟩ = _ := (HRA.out _ B0).2.ext (by omega)
    refine wp_region_rough (N + 1 + 1) 11 [] #[false, false, false, false, false, false, false, false, false, false, false] (by kernel_rfl) rfl rfl ?_
    rw [← hy0]
    clear hy0
    refine anyR_take 0 _ (nth0) rfl (by kernel_rfl) (by kernel_rfl) (by kernel_rfl) (by kernel_rfl) (l' := #[true, false, false, false, false, false, false, false, false, false, false]) rfl rfl ?_; intro K hK; go_big_quiet_op; go_big_quiet_on
    refine anyR_take 2 _ (nthS (nthS (nth0))) rfl (by kernel_rfl) (by kernel_rfl) (by kernel_rfl) (by kernel_rfl) (l' := #[true, false, true, false, false, false, false, false, false, false, false]) rfl rfl ?_; intro K hK; go_big_quiet_op; go_big_quiet_on
    refine anyR_two 1 8 _ _ (nthS (nth0)) (nthS (nthS (nthS (nthS (nthS (nthS (nthS (nthS (nth0))))))))) (by kernel_rfl) (l1 := #[true, true, true, false, false, false, false, false, false, false, false]) (l2 := #[true, false, true, false, false, false, false, false, true, false, false]) rfl rfl ?_ ?_
    · clear xN xN1
      go_wp2_with fail
      refine (cp_any a A D ca cd y0 (LA.out _ B0).1 (LA.out _ B0).2.1 la1 la2 HnA.out HnD.out).mono ?_
      rintro e y1 ⟨hc1, A1, D1, ca1, cd1, rfl, oA1, oD1⟩
      have B1 : Below M W1 y1 := B0.trans (hc1.mono Z0)
      have Z1 : M ≤ y1.heap.size := (HW.out _ B1).2
      have Q1 : Below K w7 y1 := Q0.trans (hc1.mono X0)
      have X1 : K ≤ y1.heap.size := Nat.le_trans X0 hc1.size
      go_wp2_with fail
      refine OneR_mk (hc1.mono (Nat.le_trans HNM Z0)) ?_
      refine anyR_two 3 8 _ _ (nthS (nthS (nthS (nth0)))) (nthS (nthS (nthS (nthS (nthS (nthS (nthS (nthS (nth0))))))))) (by kernel_rfl) (l1 := #[true, true, true, true, false, false, false, false, false, false, false]) (l2 := #[true, true, true, false, false, false, false, false, true, false, false]) rfl rfl ?_ ?_
      · go_wp2_with fail
        refine (cp_any b A' D' ca' cd' y1 (LA.out _ B1).2.2.1 (LA.out _ B1).2.2.2 lb1 lb2 HnA'.out HnD'.out).mono ?_
        rintro e y2 ⟨hc2, A3, D3, ca3, cd3, rfl, oA3, oD3⟩
        have oA1 := own_kept (w' := y2) oA1 fun g cs hg h => h.below hc2 h.lt
        have oD1 := own_kept (w' := y2) oD1 fun g cs hg h => h.below hc2 h.lt
        have B2 : Below M W1 y2 := B1.trans (hc2.mono Z1)
        have Z2 : M ≤ y2.heap.size := (HW.out _ B2).2
        have Q2 : Below K w7 y2 := Q1.trans (hc2.mono X1)
        have X2 : K ≤ y2.heap.size := Nat.le_trans X1 hc2.size
        go_wp2_with fail
        refine OneR_mk (hc2.mono (Nat.le_trans HNM Z1)) ?_
        refine anyR_two 4 8 _ _ (nthS (nthS (nthS (nthS (nth0))))) (nthS (nthS (nthS (nthS (nthS (nthS (nthS (nthS (nth0))))))))) (by kernel_rfl) (l1 := #[true, true, true, true, true, false, false, false, false, false, false]) (l2 := #[true, true, true, true, false, false, false, false, true, false, false]) rfl rfl ?_ ?_
        · go_wp2_with fail
          have hj := join_any a b A1 D1 A3 D3 ca1 cd1 ca3 cd3 y2 (own_A oA1) (own_D oD1) (own_A oA3) (own_D oD3) la1 la2 lb1 lb2 (own_nilA oA1) (own_nilD oD1) (own_nilA oA3) (own_nilD oD3)
          rw [← HJ.out, ← HEJ.out] at hj
          refine hj.mono ?_
          clear hj
          rintro e y3 ⟨hc3, A6, D6, ca6, cd6, rfl, lJ, lJd⟩
          clear oA1 oD1 oA3 oD3
          have B3 : Below M W1 y3 := B2.trans (hc3.mono Z2)
          have Z3 : M ≤ y3.heap.size := (HW.out _ B3).2
          have Q3 : Below K w7 y3 := Q2.trans (hc3.mono X2)
          have X3 : K ≤ y3.heap.size := Nat.le_trans X2 hc3.size
          go_wp2_with fail
          refine OneR_mk (hc3.mono (Nat.le_trans HNM Z2)) ?_
          refine anyR_take0 5 _ (nthS (nthS (nthS (nthS (nthS (nth0)))))) rfl (by kernel_rfl) (by kernel_rfl) (by kernel_rfl) (l' := #[true, true, true, true, true, true, false, false, false, false, false]) rfl rfl ?_; intro K hK; go_big_quiet_op; go_big_quiet_on
          refine anyR_take0 6 _ (nthS (nthS (nthS (nthS (nthS (nthS (nth0))))))) rfl (by kernel_rfl) (by kernel_rfl) (by kernel_rfl) (l' := #[true, true, true, true, true, true, true, false, false, false, false]) rfl rfl ?_; intro K hK; go_big_quiet_op; go_big_quiet_on
          refine anyR_take0 7 _ (nthS (nthS (nthS (nthS (nthS (nthS (nthS (nth0)))))))) rfl (by kernel_rfl) (by kernel_rfl) (by kernel_rfl) (l' := #[true, true, true, true, true, true, true, true, false, false, false]) rfl rfl ?_; intro K hK; go_big_quiet_op; go_big_quiet_on
          refine anyR_one 8 _ (nthS (nthS (nthS (nthS (nthS (nthS (nthS (nthS (nth0))))))))) (by kernel_rfl) (l' := #[true, true, true, true, true, true, true, true, true, false, false]) rfl ?_
          go_wp2_with fail
          generalize hS4 : World.alloc _ _ = y4
          have hc4 : Below y3.heap.size y3 y4 := by rw [← hS4]; exact (Below.refl _ _).alloc (Nat.le_refl _) _
          have bGn : Blk y4 y3.heap.size 28 [.int .i64 0, .slice none 0 0, .slice none 0 0] := by rw [← hS4]; exact Blk.new' _ [.int .i64 0, .slice none 0 0, .slice none 0 0] rfl
          clear hS4
          have lJ := (LiesA.below lJ hc4).more hc4.size
          have lJd := (LiesD.below lJd hc4).more hc4.size
          have bG := bGn
          clear bGn
          obtain ⟨G, hG⟩ : ∃ G, G = y3.heap.size := ⟨_, rfl⟩
          rw [← hG] at bG ⊢
          have hGK : K ≤ G := by rw [hG]; exact X3
          clear hG
          have B4 : Below M W1 y4 := B3.trans (hc4.mono Z3)
          have Z4 : M ≤ y4.heap.size := (HW.out _ B4).2
          have Q4 : Below K w7 y4 := Q3.trans (hc4.mono X3)
          have X4 : K ≤ y4.heap.size := Nat.le_trans X3 hc4.size
          refine OneR_mk (hc4.mono (Nat.le_trans HNM Z3)) ?_
          refine anyR_one 9 _ (nthS (nthS (nthS (nthS (nthS (nthS (nthS (nthS (nthS (nth0)))))))))) (by kernel_rfl) (l' := #[true, true, true, true, true, true, true, true, true, true, false]) rfl ?_
          have cG := bG.row
          have fG := bG.frozen
          unfold Row at cG
          have lJh := Lib.hid (And.intro lJ lJd)
          clear lJ lJd
          go_wp2_with fail
          refine OneR_mk ((((Below.refl _ _).setCell (p := ⟨G, 0, none⟩) (by dsimp only; omega) _).setCell (p := ⟨G, 1, none⟩) (by dsimp only; omega) _).setCell (p := ⟨G, 2, none⟩) (by dsimp only; omega) _) ?_
          refine anyR_take0 10 _ (nthS (nthS (nthS (nthS (nthS (nthS (nthS (nthS (nthS (nthS (nth0))))))))))) rfl (by kernel_rfl) (by kernel_rfl) (by kernel_rfl) (l' := #[true, true, true, true, true, true, true, true, true, true, true]) rfl rfl ?_; intro K hK; go_big_quiet_op; go_big_quiet_on
          refine anyR_end (by kernel_rfl) ?_
          have bG9 := ((bG.set_ 0 (.int .i64 J.slots)).set_ 1 (.slice A6 J.al.length ca6)).set_ 2 (.slice D6 J.dl.length cd6)
          simp only [List.set_cons_zero, List.set_cons_succ] at bG9
          have hmid : Mid (.pointer (some ⟨G, 0, none⟩)) (((y4.setCell ⟨G, 0, none⟩ (.int .i64 J.slots)).setCell ⟨G, 1, none⟩ (.slice A6 J.al.length ca6)).setCell ⟨G, 2, none⟩ (.slice D6 J.dl.length cd6)) := by
            rw [HMid.out]
            exact ⟨G, A6, D6, ca6, cd6, rfl, bG9, LiesA.setRec lJh.out.1 bG (by simp [World.setCell]) set3_far, LiesD.setRec lJh.out.2 bG (by simp [World.setCell]) set3_far, ((Q4.setCell (p := ⟨G, 0, none⟩) hGK _).setCell (p := ⟨G, 1, none⟩) hGK _).setCell (p := ⟨G, 2, none⟩) hGK _⟩
          clear bG9 cG fG
          go_wp2_with fail
          go_meet
          exact ⟨hmid, rfl⟩
        · go_wp2_with fail
          generalize hS3 : World.alloc _ _ = y3
          have hc3 : Below y2.heap.size y2 y3 := by rw [← hS3]; exact (Below.refl _ _).alloc (Nat.le_refl _) _
          have bGn : Blk y3 y2.heap.size 28 [.int .i64 0, .slice none 0 0, .slice none 0 0] := by rw [← hS3]; exact Blk.new' _ [.int .i64 0, .slice none 0 0, .slice none 0 0] rfl
          clear hS3
          have oA1 := own_kept (w' := y3) oA1 fun g cs hg h => h.below hc3 h.lt
          have oD1 := own_kept (w' := y3) oD1 fun g cs hg h => h.below hc3 h.lt
          have oA3 := own_kept (w' := y3) oA3 fun g cs hg h => h.below hc3 h.lt
          have oD3 := own_kept (w' := y3) oD3 fun g cs hg h => h.below hc3 h.lt
          have bG := bGn
          clear bGn
          obtain ⟨G, hG⟩ : ∃ G, G = y2.heap.size := ⟨_, rfl⟩
          rw [← hG] at bG ⊢
          have hGK : K ≤ G := by rw [hG]; exact X2
          clear hG
          have B3 : Below M W1 y3 := B2.trans (hc3.mono Z2)
          have Z3 : M ≤ y3.heap.size := (HW.out _ B3).2
          have Q3 : Below K w7 y3 := Q2.trans (hc3.mono X2)
          have X3 : K ≤ y3.heap.size := Nat.le_trans X2 hc3.size
          refine OneR_mk (hc3.mono (Nat.le_trans HNM Z2)) ?_
          refine anyR_one 4 _ (nthS (nthS (nthS (nthS (nth0))))) (by kernel_rfl) (l' := #[true, true, true, true, true, false, false, false, true, false, false]) rfl ?_
          go_wp2_with fail
          have hj := join_any a b A1 D1 A3 D3 ca1 cd1 ca3 cd3 y3 (own_A oA1) (own_D oD1) (own_A oA3) (own_D oD3) la1 la2 lb1 lb2 (own_nilA oA1) (own_nilD oD1) (own_nilA oA3) (own_nilD oD3)
          rw [← HJ.out, ← HEJ.out] at hj
          refine hj.mono ?_
          clear hj
          rintro e y4 ⟨hc4, A6, D6, ca6, cd6, rfl, lJ, lJd⟩
          clear oA1 oD1 oA3 oD3
          have bG := bG.below hc4 bG.lt
          have B4 : Below M W1 y4 := B3.trans (hc4.mono Z3)
          have Z4 : M ≤ y4.heap.size := (HW.out _ B4).2
          have Q4 : Below K w7 y4 := Q3.trans (hc4.mono X3)
          have X4 : K ≤ y4.heap.size := Nat.le_trans X3 hc4.size
          go_wp2_with fail
          refine OneR_mk (hc4.mono (Nat.le_trans HNM Z3)) ?_
          refine anyR_take0 5 _ (nthS (nthS (nthS (nthS (nthS (nth0)))))) rfl (by kernel_rfl) (by kernel_rfl) (by kernel_rfl) (l' := #[true, true, true, true, true, true, false, false, true, false, false]) rfl rfl ?_; intro K hK; go_big_quiet_op; go_big_quiet_on
          refine anyR_take0 6 _ (nthS (nthS (nthS (nthS (nthS (nthS (nth0))))))) rfl (by kernel_rfl) (by kernel_rfl) (by kernel_rfl) (l' := #[true, true, true, true, true, true, true, false, true, false, false]) rfl rfl ?_; intro K hK; go_big_quiet_op; go_big_quiet_on
          refine anyR_take0 7 _ (nthS (nthS (nthS (nthS (nthS (nthS (nthS (nth0)))))))) rfl (by kernel_rfl) (by kernel_rfl) (by kernel_rfl) (l' := #[true, true, true, true, true, true, true, true, true, false, false]) rfl rfl ?_; intro K hK; go_big_quiet_op; go_big_quiet_on
          refine anyR_one 9 _ (nthS (nthS (nthS (nthS (nthS (nthS (nthS (nthS (nthS (nth0)))))))))) (by kernel_rfl) (l' := #[true, true, true, true, true, true, true, true, true, true, false]) rfl ?_
          have cG := bG.row
          have fG := bG.frozen
          unfold Row at cG
          have lJh := Lib.hid (And.intro lJ lJd)
          clear lJ lJd
          go_wp2_with fail
          refine OneR_mk ((((Below.refl _ _).setCell (p := ⟨G, 0, none⟩) (by dsimp only; omega) _).setCell (p := ⟨G, 1, none⟩) (by dsimp only; omega) _).setCell (p := ⟨G, 2, none⟩) (by dsimp only; omega) _) ?_
          refine anyR_take0 10 _ (nthS (nthS (nthS (nthS (nthS (nthS (nthS (nthS (nthS (nthS (nth0))))))))))) rfl (by kernel_rfl) (by kernel_rfl) (by kernel_rfl) (l' := #[true, true, true, true, true, true, true, true, true, true, true]) rfl rfl ?_; intro K hK; go_big_quiet_op; go_big_quiet_on
          refine anyR_end (by kernel_rfl) ?_
          have bG9 := ((bG.set_ 0 (.int .i64 J.slots)).set_ 1 (.slice A6 J.al.length ca6)).set_ 2 (.slice D6 J.dl.length cd6)
          simp only [List.set_cons_zero, List.set_cons_succ] at bG9
          have hmid : Mid (.pointer (some ⟨G, 0, none⟩)) (((y4.setCell ⟨G, 0, none⟩ (.int .i64 J.slots)).setCell ⟨G, 1, none⟩ (.slice A6 J.al.length ca6)).setCell ⟨G, 2, none⟩ (.slice D6 J.dl.length cd6)) := by
            rw [HMid.out]
            exact ⟨G, A6, D6, ca6, cd6, rfl, bG9, LiesA.setRec lJh.out.1 bG (by simp [World.setCell]) set3_far, LiesD.setRec lJh.out.2 bG (by simp [World.setCell]) set3_far, ((Q4.setCell (p := ⟨G, 0, none⟩) hGK _).setCell (p := ⟨G, 1, none⟩) hGK _).setCell (p := ⟨G, 2, none⟩) hGK _⟩
          clear bG9 cG fG
          go_wp2_with fail
          go_meet
          exact ⟨hmid, rfl⟩
      · go_wp2_with fail
        generalize hS2 : World.alloc _ _ = y2
        have hc2 : Below y1.heap.size y1 y2 := by rw [← hS2]; exact (Below.refl _ _).alloc (Nat.le_refl _) _
        have bGn : Blk y2 y1.heap.size 28 [.int .i64 0, .slice none 0 0, .slice none 0 0] := by rw [← hS2]; exact Blk.new' _ [.int .i64 0, .slice none 0 0, .slice none 0 0] rfl
        clear hS2
        have oA1 := own_kept (w' := y2) oA1 fun g cs hg h => h.below hc2 h.lt
        have oD1 := own_kept (w' := y2) oD1 fun g cs hg h => h.below hc2 h.lt
        have bG := bGn
        clear bGn
        obtain ⟨G, hG⟩ : ∃ G, G = y1.heap.size := ⟨_, rfl⟩
        rw [← hG] at bG ⊢
        have hGK : K ≤ G := by rw [hG]; exact X1
        clear hG
        have B2 : Below M W1 y2 := B1.trans (hc2.mono Z1)
        have Z2 : M ≤ y2.heap.size := (HW.out _ B2).2
        have Q2 : Below K w7 y2 := Q1.trans (hc2.mono X1)
        have X2 : K ≤ y2.heap.size := Nat.le_trans X1 hc2.size
        refine OneR_mk (hc2.mono (Nat.le_trans HNM Z1)) ?_
        refine anyR_one 3 _ (nthS (nthS (nthS (nth0)))) (by kernel_rfl) (l' := #[true, true, true, true, false, false, false, false, true, false, false]) rfl ?_
        go_wp2_with fail
        refine (cp_any b A' D' ca' cd' y2 (LA.out _ B2).2.2.1 (LA.out _ B2).2.2.2 lb1 lb2 HnA'.out HnD'.out).mono ?_
        rintro e y3 ⟨hc3, A3, D3, ca3, cd3, rfl, oA3, oD3⟩
        have bG := bG.below hc3 bG.lt
        have oA1 := own_kept (w' := y3) oA1 fun g cs hg h => h.below hc3 h.lt
        have oD1 := own_kept (w' := y3) oD1 fun g cs hg h => h.below hc3 h.lt
        have B3 : Below M W1 y3 := B2.trans (hc3.mono Z2)
        have Z3 : M ≤ y3.heap.size := (HW.out _ B3).2
        have Q3 : Below K w7 y3 := Q2.trans (hc3.mono X2)
        have X3 : K ≤ y3.heap.size := Nat.le_trans X2 hc3.size
        go_wp2_with fail
        refine OneR_mk (hc3.mono (Nat.le_trans HNM Z2)) ?_
        refine anyR_one 4 _ (nthS (nthS (nthS (nthS (nth0))))) (by kernel_rfl) (l' := #[true, true, true, true, true, false, false, false, true, false, false]) rfl ?_
        go_wp2_with fail
        have hj := join_any a b A1 D1 A3 D3 ca1 cd1 ca3 cd3 y3 (own_A oA1) (own_D oD1) (own_A oA3) (own_D oD3) la1 la2 lb1 lb2 (own_nilA oA1) (own_nilD oD1) (own_nilA oA3) (own_nilD oD3)
        rw [← HJ.out, ← HEJ.out] at hj
        refine hj.mono ?_
        clear hj
        rintro e y4 ⟨hc4, A6, D6, ca6, cd6, rfl, lJ, lJd⟩
        clear oA1 oD1 oA3 oD3
        have bG := bG.below hc4 bG.lt
        have B4 : Below M W1 y4 := B3.trans (hc4.mono Z3)
        have Z4 : M ≤ y4.heap.size := (HW.out _ B4).2
        have Q4 : Below K w7 y4 := Q3.trans (hc4.mono X3)
        have X4 : K ≤ y4.heap.size := Nat.le_trans X3 hc4.size
        go_wp2_with fail
        refine OneR_mk (hc4.mono (Nat.le_trans HNM Z3)) ?_
        refine anyR_take0 5 _ (nthS (nthS (nthS (nthS (nthS (nth0)))))) rfl (by kernel_rfl) (by kernel_rfl) (by kernel_rfl) (l' := #[true, true, true, true, true, true, false, false, true, false, false]) rfl rfl ?_; intro K hK; go_big_quiet_op; go_big_quiet_on
        refine anyR_take0 6 _ (nthS (nthS (nthS (nthS (nthS (nthS (nth0))))))) rfl (by kernel_rfl) (by kernel_rfl) (by kernel_rfl) (l' := #[true, true, true, true, true, true, true, false, true, false, false]) rfl rfl ?_; intro K hK; go_big_quiet_op; go_big_quiet_on
        refine anyR_take0 7 _ (nthS (nthS (nthS (nthS (nthS (nthS (nthS (nth0)))))))) rfl (by kernel_rfl) (by kernel_rfl) (by kernel_rfl) (l' := #[true, true, true, true, true, true, true, true, true, false, false]) rfl rfl ?_; intro K hK; go_big_quiet_op; go_big_quiet_on
        refine anyR_one 9 _ (nthS (nthS (nthS (nthS (nthS (nthS (nthS (nthS (nthS (nth0)))))))))) (by kernel_rfl) (l' := #[true, true, true, true, true, true, true, true, true, true, false]) rfl ?_
        have cG := bG.row
        have fG := bG.frozen
        unfold Row at cG
        have lJh := Lib.hid (And.intro lJ lJd)
        clear lJ lJd
        go_wp2_with fail
        refine OneR_mk ((((Below.refl _ _).setCell (p := ⟨G, 0, none⟩) (by dsimp only; omega) _).setCell (p := ⟨G, 1, none⟩) (by dsimp only; omega) _).setCell (p := ⟨G, 2, none⟩) (by dsimp only; omega) _) ?_
        refine anyR_take0 10 _ (nthS (nthS (nthS (nthS (nthS (nthS (nthS (nthS (nthS (nthS (nth0))))))))))) rfl (by kernel_rfl) (by kernel_rfl) (by kernel_rfl) (l' := #[true, true, true, true, true, true, true, true, true, true, true]) rfl rfl ?_; intro K hK; go_big_quiet_op; go_big_quiet_on
        refine anyR_end (by kernel_rfl) ?_
        have bG9 := ((bG.set_ 0 (.int .i64 J.slots)).set_ 1 (.slice A6 J.al.length ca6)).set_ 2 (.slice D6 J.dl.length cd6)
        simp only [List.set_cons_zero, List.set_cons_succ] at bG9
        have hmid : Mid (.pointer (some ⟨G, 0, none⟩)) (((y4.setCell ⟨G, 0, none⟩ (.int .i64 J.slots)).setCell ⟨G, 1, none⟩ (.slice A6 J.al.length ca6)).setCell ⟨G, 2, none⟩ (.slice D6 J.dl.length cd6)) := by
          rw [HMid.out]
          exact ⟨G, A6, D6, ca6, cd6, rfl, bG9, LiesA.setRec lJh.out.1 bG (by simp [World.setCell]) set3_far, LiesD.setRec lJh.out.2 bG (by simp [World.setCell]) set3_far, ((Q4.setCell (p := ⟨G, 0, none⟩) hGK _).setCell (p := ⟨G, 1, none⟩) hGK _).setCell (p := ⟨G, 2, none⟩) hGK _⟩
        clear bG9 cG fG
        go_wp2_with fail
        go_meet
        exact ⟨hmid, rfl⟩
    · clear xN xN1
      go_wp2_with fail
      generalize hS1 : World.alloc _ _ = y1
      have hc1 : Below y0.heap.size y0 y1 := by rw [← hS1]; exact (Below.refl _ _).alloc (Nat.le_refl _) _
      have bGn : Blk y1 y0.heap.size 28 [.int .i64 0, .slice none 0 0, .slice none 0 0] := by rw [← hS1]; exact Blk.new' _ [.int .i64 0, .slice none 0 0, .slice none 0 0] rfl
      clear hS1
      have bG := bGn
      clear bGn
      obtain ⟨G, hG⟩ : ∃ G, G = y0.heap.size := ⟨_, rfl⟩
      rw [← hG] at bG ⊢
      have hGK : K ≤ G := by rw [hG]; exact X0
      clear hG
      have B1 : Below M W1 y1 := B0.trans (hc1.mono Z0)
      have Z1 : M ≤ y1.heap.size := (HW.out _ B1).2
      have Q1 : Below K w7 y1 := Q0.trans (hc1.mono X0)
      have X1 : K ≤ y1.heap.size := Nat.le_trans X0 hc1.size
      refine OneR_mk (hc1.mono (Nat.le_trans HNM Z0)) ?_
      refine anyR_one 1 _ (nthS (nth0)) (by kernel_rfl) (l' := #[true, true, true, false, false, false, false, false, true, false, false]) rfl ?_
      go_wp2_with fail
      refine (cp_any a A D ca cd y1 (LA.out _ B1).1 (LA.out _ B1).2.1 la1 la2 HnA.out HnD.out).mono ?_
      rintro e y2 ⟨hc2, A1, D1, ca1, cd1, rfl, oA1, oD1⟩
      have bG := bG.below hc2 bG.lt
      have B2 : Below M W1 y2 := B1.trans (hc2.mono Z1)
      have Z2 : M ≤ y2.heap.size := (HW.out _ B2).2
      have Q2 : Below K w7 y2 := Q1.trans (hc2.mono X1)
      have X2 : K ≤ y2.heap.size := Nat.le_trans X1 hc2.size
      go_wp2_with fail
      refine OneR_mk (hc2.mono (Nat.le_trans HNM Z1)) ?_
      refine anyR_one 3 _ (nthS (nthS (nthS (nth0)))) (by kernel_rfl) (l' := #[true, true, true, true, false, false, false, false, true, false, false]) rfl ?_
      go_wp2_with fail
      refine (cp_any b A' D' ca' cd' y2 (LA.out _ B2).2.2.1 (LA.out _ B2).2.2.2 lb1 lb2 HnA'.out HnD'.out).mono ?_
      rintro e y3 ⟨hc3, A3, D3, ca3, cd3, rfl, oA3, oD3⟩
      have bG := bG.below hc3 bG.lt
      have oA1 := own_kept (w' := y3) oA1 fun g cs hg h => h.below hc3 h.lt
      have oD1 := own_kept (w' := y3) oD1 fun g cs hg h => h.below hc3 h.lt
      have B3 : Below M W1 y3 := B2.trans (hc3.mono Z2)
      have Z3 : M ≤ y3.heap.size := (HW.out _ B3).2
      have Q3 : Below K w7 y3 := Q2.trans (hc3.mono X2)
      have X3 : K ≤ y3.heap.size := Nat.le_trans X2 hc3.size
      go_wp2_with fail
      refine OneR_mk (hc3.mono (Nat.le_trans HNM Z2)) ?_
      refine anyR_one 4 _ (nthS (nthS (nthS (nthS (nth0))))) (by kernel_rfl) (l' := #[true, true, true, true, true, false, false, false, true, false, false]) rfl ?_
      go_wp2_with fail
      have hj := join_any a b A1 D1 A3 D3 ca1 cd1 ca3 cd3 y3 (own_A oA1) (own_D oD1) (own_A oA3) (own_D oD3) la1 la2 lb1 lb2 (own_nilA oA1) (own_nilD oD1) (own_nilA oA3) (own_nilD oD3)
      rw [← HJ.out, ← HEJ.out] at hj
      refine hj.mono ?_
      clear hj
      rintro e y4 ⟨hc4, A6, D6, ca6, cd6, rfl, lJ, lJd⟩
      clear oA1 oD1 oA3 oD3
      have bG := bG.below hc4 bG.lt
      have B4 : Below M W1 y4 := B3.trans (hc4.mono Z3)
      have Z4 : M ≤ y4.heap.size := (HW.out _ B4).2
      have Q4 : Below K w7 y4 := Q3.trans (hc4.mono X3)
      have X4 : K ≤ y4.heap.size := Nat.le_trans X3 hc4.size
      go_wp2_with fail
      refine OneR_mk (hc4.mono (Nat.le_trans HNM Z3)) ?_
      refine anyR_take0 5 _ (nthS (nthS (nthS (nthS (nthS (nth0)))))) rfl (by kernel_rfl) (by kernel_rfl) (by kernel_rfl) (l' := #[true, true, true, true, true, true, false, false, true, false, false]) rfl rfl ?_; intro K hK; go_big_quiet_op; go_big_quiet_on
      refine anyR_take0 6 _ (nthS (nthS (nthS (nthS (nthS (nthS (nth0))))))) rfl (by kernel_rfl) (by kernel_rfl) (by kernel_rfl) (l' := #[true, true, true, true, true, true, true, false, true, false, false]) rfl rfl ?_; intro K hK; go_big_quiet_op; go_big_quiet_on
      refine anyR_take0 7 _ (nthS (nthS (nthS (nthS (nthS (nthS (nthS (nth0)))))))) rfl (by kernel_rfl) (by kernel_rfl) (by kernel_rfl) (l' := #[true, true, true, true, true, true, true, true, true, false, false]) rfl rfl ?_; intro K hK; go_big_quiet_op; go_big_quiet_on
      refine anyR_one 9 _ (nthS (nthS (nthS (nthS (nthS (nthS (nthS (nthS (nthS (nth0)))))))))) (by kernel_rfl) (l' := #[true, true, true, true, true, true, true, true, true, true, false]) rfl ?_
      have cG := bG.row
      have fG := bG.frozen
      unfold Row at cG
      have lJh := Lib.hid (And.intro lJ lJd)
      clear lJ lJd
      go_wp2_with fail
      refine OneR_mk ((((Below.refl _ _).setCell (p := ⟨G, 0, none⟩) (by dsimp only; omega) _).setCell (p := ⟨G, 1, none⟩) (by dsimp only; omega) _).setCell (p := ⟨G, 2, none⟩) (by dsimp only; omega) _) ?_
      refine anyR_take0 10 _ (nthS (nthS (nthS (nthS (nthS (nthS (nthS (nthS (nthS (nthS (nth0))))))))))) rfl (by kernel_rfl) (by kernel_rfl) (by kernel_rfl) (l' := #[true, true, true, true, true, true, true, true, true, true, true]) rfl rfl ?_; intro K hK; go_big_quiet_op; go_big_quiet_on
      refine anyR_end (by kernel_rfl) ?_
      have bG9 := ((bG.set_ 0 (.int .i64 J.slots)).set_ 1 (.slice A6 J.al.length ca6)).set_ 2 (.slice D6 J.dl.length cd6)
      simp only [List.set_cons_zero, List.set_cons_succ] at bG9
      have hmid : Mid (.pointer (some ⟨G, 0, none⟩)) (((y4.setCell ⟨G, 0, none⟩ (.int .i64 J.slots)).setCell ⟨G, 1, none⟩ (.slice A6 J.al.length ca6)).setCell ⟨G, 2, none⟩ (.slice D6 J.dl.length cd6)) := by
        rw [HMid.out]
        exact ⟨G, A6, D6, ca6, cd6, rfl, bG9, LiesA.setRec lJh.out.1 bG (by simp [World.setCell]) set3_far, LiesD.setRec lJh.out.2 bG (by simp [World.setCell]) set3_far, ((Q4.setCell (p := ⟨G, 0, none⟩) hGK _).setCell (p := ⟨G, 1, none⟩) hGK _).setCell (p := ⟨G, 2, none⟩) hGK _⟩
      clear bG9 cG fG
      go_wp2_with fail
      go_meet
      exact ⟨hmid, rfl⟩
  case rest =>
  obtain ⟨hmid, rfl⟩ := hcut
  rw [HMid.out] at hmid
  obtain ⟨G, A8, D8, ca8, cd8, rfl, bG, lA8, lD8, hb8⟩ := hmid
  obtain ⟨w8, hw8⟩ : ∃ w8 : World, w8 = wc := ⟨_, rfl⟩
  subst hw8
  clear HMid hb7
  have hb8M := (HXY.out _ hb8).2.2.2.2.2.2.1
  have r8 := (HRA.out _ hb8M).1
  have q8 := (HRA.out _ hb8M).2
  unfold Row at r8 q8
  have hrj := rjoin_any a b A D A' D' ca cd ca' cd' w8 (LA.out _ hb8M).1 (LA.out _ hb8M).2.1 (LA.out _ hb8M).2.2.1 (LA.out _ hb8M).2.2.2 la1 la2 lb1 lb2 HnA.out HnD.out HnA'.out HnD'.out
  rw [← HJ.out, ← HEJ.out] at hrj
  have HRJ := Lib.hid hrj
  clear hrj
  go_wp2_with fail
  refine HRJ.out.mono ?_
  rintro e w9 ⟨hb9', A9, D9, ca9, cd9, rfl, lA9, lD9⟩
  have hb9 : Below K w7 w9 := hb8.trans (hb9'.mono (HXY.out _ hb8).2.2.2.2.2.2.2)
  have bG9 := bG.below hb9' bG.lt
  have lA8' := (lA8.below hb9').more hb9'.size
  have lD8' := (lD8.below hb9').more hb9'.size
  clear HRJ bG lA8 lD8 hb9' hb8 r8 q8 hb8M
  obtain ⟨rX, rY, _, _, _, _, _, z9⟩ := HXY.out _ hb9
  unfold Row at rX rY
  have hX9 : X < w9.heap.size := by omega
  have hY9 : Y < w9.heap.size := by omega
  go_wp2_with fail
  generalize hV : World.alloc _ _ = w10
  have bV : Blk w10 w9.heap.size 28 [.int .i64 J.slots, .slice A9 J.al.length ca9, .slice D9 J.dl.length cd9] := by rw [← hV]; exact Blk.new' _ [.int .i64 J.slots, .slice A9 J.al.length ca9, .slice D9 J.dl.length cd9] rfl
  have hva : Below w9.heap.size w9 w10 := by rw [← hV]; exact (Below.refl _ _).alloc (Nat.le_refl _) _
  have hb10 : Below K w7 w10 := hb9.trans (hva.mono z9)
  have bG10 := bG9.below hva bG9.lt
  have m1 := (lA8'.below hva).more hva.size
  have m2 := (lD8'.below hva).more hva.size
  have m3 := (lA9.below hva).more hva.size
  have m4 := (lD9.below hva).more hva.size
  obtain ⟨V, hVe⟩ : ∃ V, V = w9.heap.size := ⟨_, rfl⟩
  rw [← hVe] at bV ⊢
  clear hV hva hVe lA8' lD8' lA9 lD9 bG9 rX rY hX9 hY9 z9 hb9
  obtain ⟨_, _, n1, n2, n3, n4, _, z10⟩ := HXY.out _ hb10
  refine (same_any C C A6 D6 A7 D7 ca6 cd6 ca7 cd7 w10 n1 n2 n3 n4 (by omega) (by omega) (by omega) (by omega)).mono ?_
  rw [show sameB C C = true by simp [sameB]]
  rintro e w11 ⟨rfl, hb11'⟩
  have hb11 : Below K w7 w11 := hb10.trans (hb11'.mono z10)
  have cG := (bG10.below hb11' bG10.lt).row
  have cV := (bV.below hb11' bV.lt).row
  have p1 := (m1.below hb11').more hb11'.size
  have p2 := (m2.below hb11').more hb11'.size
  have p3 := (m3.below hb11').more hb11'.size
  have p4 := (m4.below hb11').more hb11'.size
  unfold Row at cG cV
  clear m1 m2 m3 m4 bG10 bV hb11' n1 n2 n3 n4 hb10 z10
  go_wp2_with fail
  refine (same_any J J A8 D8 A9 D9 ca8 cd8 ca9 cd9 w11 p1 p2 p3 p4 (by omega) (by omega) (by omega) (by omega)).mono ?_
  rw [show sameB J J = true by simp [sameB]]
  rintro e w12 ⟨rfl, hb12⟩
  have hfin := (HXY.out _ (hb11.trans (hb12.mono (HXY.out _ hb11).2.2.2.2.2.2.2))).2.2.2.2.2.2.1
  clear cG cV p1 p2 p3 p4
  go_wp2_with fail
  go_ret
  exact ⟨rfl, by rw [← HN.out]; exact (HW.out _ hfin).1⟩

end Go.Proofs.Ytllakkepphpfmaa
