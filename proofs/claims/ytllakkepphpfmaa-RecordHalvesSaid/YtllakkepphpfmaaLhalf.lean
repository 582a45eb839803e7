/- RecordHalves: what Cut leaves and what the law's own deletion leaves join to the record. -/
import Derived.Test.YtllakkepphpfmaaOpen
import Derived.Test.YtllakkepphpfmaaLcut
import Derived.Test.YtllakkepphpfmaaHalfP
import Derived.Test.YtllakkepphpfmaaFloat3
namespace Go.Proofs.Ytllakkepphpfmaa
open Go.RowKit
open Rc

theorem LiesA.nil_of {w : World} {B : Nat} {A : Option Addr} {l : List Att} (h : LiesA w B A l) : A = none → l = [] := fun hA => by
  subst hA
  cases l with
  | nil => rfl
  | cons a l =>
    obtain ⟨b, off, e, _⟩ := h (by simp)
    cases e
theorem LiesD.nil_of {w : World} {B : Nat} {A : Option Addr} {l : List Dlv} (h : LiesD w B A l) : A = none → l = [] := fun hA => by
  subst hA
  cases l with
  | nil => rfl
  | cons a l =>
    obtain ⟨b, off, e, _⟩ := h (by simp)
    cases e
theorem cutE_three (r : Rec) (n : Int) : cutE r n = 0 ∨ cutE r n = 1 ∨ cutE r n = 2 := by
  unfold cutE
  split
  · split <;> simp
  · simp
/-- A row of another type outlives what is done to a row. -/
theorem own_apart {w w' : World} {base base' : Nat} {e e' : TypeId} {size size' : Nat} {v v' : Value} {n n' : Nat} {xs xs' : List Value} (h : w.ownsRow base e size v n xs) (h' : w.ownsRow base' e' size' v' n' xs') (hg : w.grownBy w' v'.ownBlock) (hne : e ≠ e') : w'.ownsRow base e size v n xs :=
  own_kept h fun g cs hv hb => hb.grown_ hg fun he => hne (own_type h' he hb)

theorem Blk.type_eq {w : World} {g : Nat} {t t' : TypeId} {cs cs' : List Value} (h : Blk w g t cs) (h' : Blk w g t' cs') : t = t' := by
  unfold Blk at h h'
  rw [h] at h'
  injection h' with h'
  injection h' with _ h' _
theorem own_set {w : World} {base X i : Nat} {e t : TypeId} {size : Nat} {v u : Value} {n : Nat} {xs cs : List Value} (h : w.ownsRow base e size v n xs) (hb : Blk w X t cs) (hne : e ≠ t) : (w.setCell ⟨X, i, none⟩ u).ownsRow base e size v n xs :=
  own_kept h fun g cs' _ hb' => hb'.far (p := ⟨X, i, none⟩) (fun he => by
    have he' : g = X := he
    rw [he'] at hb'
    exact hne (hb'.type_eq hb)) _
theorem own_from {w : World} {base : Nat} {e : TypeId} {size : Nat} {v : Value} {n : Nat} {xs : List Value} (h : w.ownsRow base e size v n xs) : ∀ k, v.ownBlock = some k → base ≤ k := fun k hk => by
  rcases Nat.lt_or_ge k base with hlt | hge
  · exact absurd hk.symm (own_not h hlt)
  · exact hge

def fl9 : Nat → Option (Tmp × Obj)
  | 6 => some (10, .cells #[.int .i64 0, .int .i64 0, .int .i64 0, .int .i64 0, .int .i64 0] 53)
  | 7 => some (11, .cells #[.int .i64 0, .int .i64 0, .int .i64 0, .int .i64 0, .int .i64 0] 53)
  | 8 => some (12, .cells #[.int .i64 0, .int .i64 0, .int .i64 0, .int .i64 0, .int .i64 0] 53)
  | _ => none
section
variable {w a : World} {B g h : Nat} {t : TypeId} {cs : List Value} {z0 z1 z2 z3 z4 u0 u1 u2 u3 u4 : Value}
theorem set5 (hb : Blk w g t [z0, z1, z2, z3, z4]) : Blk (((((w.setCell ⟨g, 0, none⟩ u0).setCell ⟨g, 1, none⟩ u1).setCell ⟨g, 2, none⟩ u2).setCell ⟨g, 3, none⟩ u3).setCell ⟨g, 4, none⟩ u4) g t [u0, u1, u2, u3, u4] := ((((hb.set_ 0 u0).set_ 1 u1).set_ 2 u2).set_ 3 u3).set_ 4 u4
theorem far5 (hb : Blk w h t cs) (hne : h ≠ g) : Blk (((((w.setCell ⟨g, 0, none⟩ u0).setCell ⟨g, 1, none⟩ u1).setCell ⟨g, 2, none⟩ u2).setCell ⟨g, 3, none⟩ u3).setCell ⟨g, 4, none⟩ u4) h t cs := ((((hb.far (p := ⟨g, 0, none⟩) hne _).far (p := ⟨g, 1, none⟩) hne _).far (p := ⟨g, 2, none⟩) hne _).far (p := ⟨g, 3, none⟩) hne _).far (p := ⟨g, 4, none⟩) hne _
theorem below5 (hb : Below B a w) (hg : B ≤ g) : Below B a (((((w.setCell ⟨g, 0, none⟩ u0).setCell ⟨g, 1, none⟩ u1).setCell ⟨g, 2, none⟩ u2).setCell ⟨g, 3, none⟩ u3).setCell ⟨g, 4, none⟩ u4) := ((((hb.setCell (p := ⟨g, 0, none⟩) hg _).setCell (p := ⟨g, 1, none⟩) hg _).setCell (p := ⟨g, 2, none⟩) hg _).setCell (p := ⟨g, 3, none⟩) hg _).setCell (p := ⟨g, 4, none⟩) hg _
end

set_option maxRecDepth 100000 in
set_option maxHeartbeats 8000000 in
theorem recordHalves_walk (r : Rec) (A D : Option Addr) (ca cd : Nat) (n : Int) (w : World) (hr : RecIn w r A D) :
    Calls Try.prog 9 #[.agg #[.int .i64 r.slots, .slice A r.al.length ca, .slice D r.dl.length cd], .int .i64 n] w fun e w' => e = .returned (.bool true) ∧ Below w.heap.size w w' := by
  obtain ⟨hA, hD, hm1, hm2, hnA, hnD⟩ := hr
  have HF := Lib.hid (fun W => few_any r A D ca cd W hm1 hm2)
  have HnA := Lib.hid hnA
  have HnD := Lib.hid hnD
  clear hnA hnD
  go_enter Try.func9, Try.ntmps9
  go_wp2_with fail
  generalize hW1 : World.alloc _ _ = W1
  have bA : Blk W1 w.heap.size 28 [.int .i64 r.slots, .slice A r.al.length ca, .slice D r.dl.length cd] := by rw [← hW1]; exact (Blk.new' _ [.int .i64 r.slots, .slice A r.al.length ca, .slice D r.dl.length cd] rfl).alloc _
  have bB : Blk W1 (w.heap.size + 1) 3 [.int .i64 n] := by rw [← hW1]; exact Blk.new' _ [.int .i64 n] (by simp)
  have hb1 : Below w.heap.size w W1 := by rw [← hW1]; exact ((Below.refl _ _).alloc (Nat.le_refl _) _).alloc (by simp) _
  clear hW1
  obtain ⟨N, hN⟩ : ∃ N, N = w.heap.size := ⟨_, rfl⟩
  rw [← hN] at bA bB hb1 hA hD ⊢
  obtain ⟨M, hM⟩ : ∃ M, M = W1.heap.size := ⟨_, rfl⟩
  have hNM : N + 1 < M := by rw [hM]; exact bB.lt
  have HNM : N + 1 + 1 ≤ M := by omega
  have LA : Hid (∀ W, Below M W1 W → LiesA W W.heap.size A r.al ∧ LiesD W W.heap.size D r.dl) := Lib.hid fun W h =>
    ⟨((hA.below hb1).below_le h (by omega)).more (by have := h.size; omega), ((hD.below hb1).below_le h (by omega)).more (by have := h.size; omega)⟩
  have HRA : Hid (∀ W, Below M W1 W → Row W N [.int .i64 r.slots, .slice A r.al.length ca, .slice D r.dl.length cd] ∧ Row W (N + 1) [.int .i64 n]) := Lib.hid fun W h => ⟨(bA.below h (by omega)).row, (bB.below h (by omega)).row⟩
  have HW : Hid (∀ W, Below M W1 W → Below N w W ∧ M ≤ W.heap.size) := Lib.hid fun W h => ⟨hb1.trans (h.mono (by omega)), by have := h.size; omega⟩
  have HN := Lib.hid hN
  clear hN hA hD bA bB hb1
  refine (awake_any W1).mono ?_
  rintro e w2 ⟨rfl, hb2⟩
  rw [← hM] at hb2
  clear hM
  have r2 := (HRA.out _ hb2).1
  unfold Row at r2
  go_wp2_with fail
  refine (HF.out w2).mono ?_
  rintro e w3 ⟨rfl, hb3⟩
  have hb3' : Below M W1 w3 := hb2.trans (hb3.mono (HW.out _ hb2).2)
  clear r2 hb2 hb3
  by_cases hfew : r.al.length ≤ 150 ∧ r.dl.length ≤ 100
  case neg =>
    have hf : (decide (r.al.length ≤ 150) && decide (r.dl.length ≤ 100)) = false := by
      rw [Bool.eq_false_iff]; intro h; exact hfew (by simpa using h)
    rw [hf]
    clear hf hfew
    go_wp2_with fail
    refine (awake_any w3).mono ?_
    rintro e w4 ⟨rfl, hb4⟩
    have hb4' : Below M W1 w4 := hb3'.trans (hb4.mono (HW.out _ hb3').2)
    go_wp2_with fail
    go_ret
    exact ⟨rfl, by rw [← HN.out]; exact (HW.out _ hb4').1⟩
  have hf : (decide (r.al.length ≤ 150) && decide (r.dl.length ≤ 100)) = true := by simpa using hfew
  rw [hf]
  clear hf
  have la1 : r.al.length ≤ 1000000 := by omega
  have la2 : r.dl.length ≤ 1000000 := by omega
  obtain ⟨lc1, lc2⟩ := cutR_len r n
  have h3 := cutE_three r n
  have hlaw := halves_law r n
  have hbad := cutR_bad r n
  obtain ⟨C, hC⟩ : ∃ C, C = cutR r n := ⟨_, rfl⟩
  obtain ⟨EC, hEC⟩ : ∃ EC, EC = cutE r n := ⟨_, rfl⟩
  rw [← hC] at lc1 lc2 hlaw hbad
  rw [← hEC] at h3 hlaw hbad
  have HC := Lib.hid hC
  have HEC := Lib.hid hEC
  have H3 := Lib.hid h3
  have HLaw := Lib.hid hlaw
  have HBad := Lib.hid hbad
  clear hC hEC h3 hlaw hbad
  obtain ⟨Mid, hMid⟩ : ∃ Mid : Value → World → Prop, Mid = fun s5 W => ∃ (G : Nat) (A8 D8 : Option Addr) (ca8 cd8 : Nat), s5 = .pointer (some ⟨G, 0, none⟩) ∧ M ≤ G ∧ Blk W G 28 [.int .i64 C.slots, .slice A8 C.al.length ca8, .slice D8 C.dl.length cd8] ∧ LiesA W W.heap.size A8 C.al ∧ LiesD W W.heap.size D8 C.dl ∧ Below M W1 W := ⟨_, rfl⟩
  have HMid := Lib.hid hMid
  clear hMid
  go_upto_region 3 with fail
  go_cut [5, 6] (fun s5 s6 W => Mid s5 W ∧ s6 = .int .i64 EC)
  case first =>
    obtain ⟨y0, hy0⟩ : ∃ y0 : World, y0 = w3.drew := ⟨_, rfl⟩
    have B0 : Below M W1 y0 := by rw [hy0]; exact hb3'.drew
    have Z0 : M ≤ y0.heap.size := (HW.out _ B0).2
    have xN : ∀ (x : ExtW (N + 1 + 1) y0) (i : Nat), x.val.cell? ⟨N, i, none⟩ = _ := (HRA.out _ B0).1.ext (by omega)
    have xN1 : ∀ (x : ExtW (N + 1 + 1) y0) (i : Nat), x.val.cell? ⟨N + 1, i, none⟩ = _ := (HRA.out _ B0).2.ext (by omega)
    refine wp_region_rough (N + 1 + 1) 10 [] #[false, false, false, false, false, false, false, false, false, false] (by kernel_rfl) rfl rfl ?_
    rw [← hy0]
    clear hy0
    refine anyR_take 0 _ (nth0) rfl (by kernel_rfl) (by kernel_rfl) (by kernel_rfl) (by kernel_rfl) (l' := #[true, false, false, false, false, false, false, false, false, false]) rfl rfl ?_; intro K hK; go_big_quiet_op; go_big_quiet_on
    refine anyR_take 2 _ (nthS (nthS (nth0))) rfl (by kernel_rfl) (by kernel_rfl) (by kernel_rfl) (by kernel_rfl) (l' := #[true, false, true, false, false, false, false, false, false, false]) rfl rfl ?_; intro K hK; go_big_quiet_op; go_big_quiet_on
    refine anyR_two 1 7 _ _ (nthS (nth0)) (nthS (nthS (nthS (nthS (nthS (nthS (nthS (nth0)))))))) (by kernel_rfl) (l1 := #[true, true, true, false, false, false, false, false, false, false]) (l2 := #[true, false, true, false, false, false, false, true, false, false]) rfl rfl ?_ ?_
    · clear xN xN1
      go_wp2_with fail
      refine (cp_any r A D ca cd y0 (LA.out _ B0).1 (LA.out _ B0).2 la1 la2 HnA.out HnD.out).mono ?_
      rintro e y1 ⟨hc1, A1, D1, ca1, cd1, rfl, oA1, oD1⟩
      have B1 : Below M W1 y1 := B0.trans (hc1.mono Z0)
      have Z1 : M ≤ y1.heap.size := (HW.out _ B1).2
      go_wp2_with fail
      refine OneR_mk (hc1.mono (Nat.le_trans HNM Z0)) ?_
      refine anyR_two 3 7 _ _ (nthS (nthS (nthS (nth0)))) (nthS (nthS (nthS (nthS (nthS (nthS (nthS (nth0)))))))) (by kernel_rfl) (l1 := #[true, true, true, true, false, false, false, false, false, false]) (l2 := #[true, true, true, false, false, false, false, true, false, false]) rfl rfl ?_ ?_
      · go_wp2_with fail
        have hj := cut_any r A1 D1 ca1 cd1 n y1 (own_A oA1) (own_D oD1) la1 la2
        rw [← HC.out, ← HEC.out] at hj
        refine hj.mono ?_
        clear hj
        rintro e y2 ⟨hc2, A6, D6, ca6, cd6, rfl, lC, lCd⟩
        clear oA1 oD1
        have B2 : Below M W1 y2 := B1.trans (hc2.mono Z1)
        have Z2 : M ≤ y2.heap.size := (HW.out _ B2).2
        go_wp2_with fail
        refine OneR_mk (hc2.mono (Nat.le_trans HNM Z1)) ?_
        refine anyR_take0 4 _ (nthS (nthS (nthS (nthS (nth0))))) rfl (by kernel_rfl) (by kernel_rfl) (by kernel_rfl) (l' := #[true, true, true, true, true, false, false, false, false, false]) rfl rfl ?_; intro K hK; go_big_quiet_op; go_big_quiet_on
        refine anyR_take0 5 _ (nthS (nthS (nthS (nthS (nthS (nth0)))))) rfl (by kernel_rfl) (by kernel_rfl) (by kernel_rfl) (l' := #[true, true, true, true, true, true, false, false, false, false]) rfl rfl ?_; intro K hK; go_big_quiet_op; go_big_quiet_on
        refine anyR_take0 6 _ (nthS (nthS (nthS (nthS (nthS (nthS (nth0))))))) rfl (by kernel_rfl) (by kernel_rfl) (by kernel_rfl) (l' := #[true, true, true, true, true, true, true, false, false, false]) rfl rfl ?_; intro K hK; go_big_quiet_op; go_big_quiet_on
        refine anyR_one 7 _ (nthS (nthS (nthS (nthS (nthS (nthS (nthS (nth0)))))))) (by kernel_rfl) (l' := #[true, true, true, true, true, true, true, true, false, false]) rfl ?_
        go_wp2_with fail
        generalize hS3 : World.alloc _ _ = y3
        have hc3 : Below y2.heap.size y2 y3 := by rw [← hS3]; exact (Below.refl _ _).alloc (Nat.le_refl _) _
        have bGn : Blk y3 y2.heap.size 28 [.int .i64 0, .slice none 0 0, .slice none 0 0] := by rw [← hS3]; exact Blk.new' _ [.int .i64 0, .slice none 0 0, .slice none 0 0] rfl
        clear hS3
        have lC := (LiesA.below lC hc3).more hc3.size
        have lCd := (LiesD.below lCd hc3).more hc3.size
        have bG := bGn
        clear bGn
        obtain ⟨G, hG⟩ : ∃ G, G = y2.heap.size := ⟨_, rfl⟩
        rw [← hG] at bG ⊢
        have hGM : M ≤ G := by rw [hG]; exact Z2
        clear hG
        have B3 : Below M W1 y3 := B2.trans (hc3.mono Z2)
        have Z3 : M ≤ y3.heap.size := (HW.out _ B3).2
        refine OneR_mk (hc3.mono (Nat.le_trans HNM Z2)) ?_
        refine anyR_one 8 _ (nthS (nthS (nthS (nthS (nthS (nthS (nthS (nthS (nth0))))))))) (by kernel_rfl) (l' := #[true, true, true, true, true, true, true, true, true, false]) rfl ?_
        have cG := bG.row
        have fG := bG.frozen
        unfold Row at cG
        have lCh := Lib.hid (And.intro lC lCd)
        clear lC lCd
        go_wp2_with fail
        refine OneR_mk ((((Below.refl _ _).setCell (p := ⟨G, 0, none⟩) (by dsimp only; omega) _).setCell (p := ⟨G, 1, none⟩) (by dsimp only; omega) _).setCell (p := ⟨G, 2, none⟩) (by dsimp only; omega) _) ?_
        refine anyR_take0 9 _ (nthS (nthS (nthS (nthS (nthS (nthS (nthS (nthS (nthS (nth0)))))))))) rfl (by kernel_rfl) (by kernel_rfl) (by kernel_rfl) (l' := #[true, true, true, true, true, true, true, true, true, true]) rfl rfl ?_; intro K hK; go_big_quiet_op; go_big_quiet_on
        refine anyR_end (by kernel_rfl) ?_
        have bG9 := ((bG.set_ 0 (.int .i64 C.slots)).set_ 1 (.slice A6 C.al.length ca6)).set_ 2 (.slice D6 C.dl.length cd6)
        simp only [List.set_cons_zero, List.set_cons_succ] at bG9
        have hmid : Mid (.pointer (some ⟨G, 0, none⟩)) (((y3.setCell ⟨G, 0, none⟩ (.int .i64 C.slots)).setCell ⟨G, 1, none⟩ (.slice A6 C.al.length ca6)).setCell ⟨G, 2, none⟩ (.slice D6 C.dl.length cd6)) := by
          rw [HMid.out]
          exact ⟨G, A6, D6, ca6, cd6, rfl, hGM, bG9, LiesA.setRec lCh.out.1 bG (by simp [World.setCell]) set3_far, LiesD.setRec lCh.out.2 bG (by simp [World.setCell]) set3_far, ((B3.setCell (p := ⟨G, 0, none⟩) hGM _).setCell (p := ⟨G, 1, none⟩) hGM _).setCell (p := ⟨G, 2, none⟩) hGM _⟩
        clear bG9 cG fG
        go_wp2_with fail
        go_meet
        exact ⟨hmid, rfl⟩
      · go_wp2_with fail
        generalize hS2 : World.alloc _ _ = y2
        have hc2 : Below y1.heap.size y1 y2 := by rw [← hS2]; exact (Below.refl _ _).alloc (Nat.le_refl _) _
        have bGn : Blk y2 y1.heap.size 28 [.int .i64 0, .slice none 0 0, .slice none 0 0] := by rw [← hS2]; exact Blk.new' _ [.int .i64 0, .slice none 0 0, .slice none 0 0] rfl
        clear hS2
        have oA1 := own_kept (w' := y2) oA1 fun g cs hg h => h.below hc2 h.lt
        have oD1 := own_kept (w' := y2) oD1 fun g cs hg h => h.below hc2 h.lt
        have bG := bGn
        clear bGn
        obtain ⟨G, hG⟩ : ∃ G, G = y1.heap.size := ⟨_, rfl⟩
        rw [← hG] at bG ⊢
        have hGM : M ≤ G := by rw [hG]; exact Z1
        clear hG
        have B2 : Below M W1 y2 := B1.trans (hc2.mono Z1)
        have Z2 : M ≤ y2.heap.size := (HW.out _ B2).2
        refine OneR_mk (hc2.mono (Nat.le_trans HNM Z1)) ?_
        refine anyR_one 3 _ (nthS (nthS (nthS (nth0)))) (by kernel_rfl) (l' := #[true, true, true, true, false, false, false, true, false, false]) rfl ?_
        go_wp2_with fail
        have hj := cut_any r A1 D1 ca1 cd1 n y2 (own_A oA1) (own_D oD1) la1 la2
        rw [← HC.out, ← HEC.out] at hj
        refine hj.mono ?_
        clear hj
        rintro e y3 ⟨hc3, A6, D6, ca6, cd6, rfl, lC, lCd⟩
        clear oA1 oD1
        have bG := bG.below hc3 bG.lt
        have B3 : Below M W1 y3 := B2.trans (hc3.mono Z2)
        have Z3 : M ≤ y3.heap.size := (HW.out _ B3).2
        go_wp2_with fail
        refine OneR_mk (hc3.mono (Nat.le_trans HNM Z2)) ?_
        refine anyR_take0 4 _ (nthS (nthS (nthS (nthS (nth0))))) rfl (by kernel_rfl) (by kernel_rfl) (by kernel_rfl) (l' := #[true, true, true, true, true, false, false, true, false, false]) rfl rfl ?_; intro K hK; go_big_quiet_op; go_big_quiet_on
        refine anyR_take0 5 _ (nthS (nthS (nthS (nthS (nthS (nth0)))))) rfl (by kernel_rfl) (by kernel_rfl) (by kernel_rfl) (l' := #[true, true, true, true, true, true, false, true, false, false]) rfl rfl ?_; intro K hK; go_big_quiet_op; go_big_quiet_on
        refine anyR_take0 6 _ (nthS (nthS (nthS (nthS (nthS (nthS (nth0))))))) rfl (by kernel_rfl) (by kernel_rfl) (by kernel_rfl) (l' := #[true, true, true, true, true, true, true, true, false, false]) rfl rfl ?_; intro K hK; go_big_quiet_op; go_big_quiet_on
        refine anyR_one 8 _ (nthS (nthS (nthS (nthS (nthS (nthS (nthS (nthS (nth0))))))))) (by kernel_rfl) (l' := #[true, true, true, true, true, true, true, true, true, false]) rfl ?_
        have cG := bG.row
        have fG := bG.frozen
        unfold Row at cG
        have lCh := Lib.hid (And.intro lC lCd)
        clear lC lCd
        go_wp2_with fail
        refine OneR_mk ((((Below.refl _ _).setCell (p := ⟨G, 0, none⟩) (by dsimp only; omega) _).setCell (p := ⟨G, 1, none⟩) (by dsimp only; omega) _).setCell (p := ⟨G, 2, none⟩) (by dsimp only; omega) _) ?_
        refine anyR_take0 9 _ (nthS (nthS (nthS (nthS (nthS (nthS (nthS (nthS (nthS (nth0)))))))))) rfl (by kernel_rfl) (by kernel_rfl) (by kernel_rfl) (l' := #[true, true, true, true, true, true, true, true, true, true]) rfl rfl ?_; intro K hK; go_big_quiet_op; go_big_quiet_on
        refine anyR_end (by kernel_rfl) ?_
        have bG9 := ((bG.set_ 0 (.int .i64 C.slots)).set_ 1 (.slice A6 C.al.length ca6)).set_ 2 (.slice D6 C.dl.length cd6)
        simp only [List.set_cons_zero, List.set_cons_succ] at bG9
        have hmid : Mid (.pointer (some ⟨G, 0, none⟩)) (((y3.setCell ⟨G, 0, none⟩ (.int .i64 C.slots)).setCell ⟨G, 1, none⟩ (.slice A6 C.al.length ca6)).setCell ⟨G, 2, none⟩ (.slice D6 C.dl.length cd6)) := by
          rw [HMid.out]
          exact ⟨G, A6, D6, ca6, cd6, rfl, hGM, bG9, LiesA.setRec lCh.out.1 bG (by simp [World.setCell]) set3_far, LiesD.setRec lCh.out.2 bG (by simp [World.setCell]) set3_far, ((B3.setCell (p := ⟨G, 0, none⟩) hGM _).setCell (p := ⟨G, 1, none⟩) hGM _).setCell (p := ⟨G, 2, none⟩) hGM _⟩
        clear bG9 cG fG
        go_wp2_with fail
        go_meet
        exact ⟨hmid, rfl⟩
    · clear xN xN1
      go_wp2_with fail
      generalize hS1 : World.alloc _ _ = y1
      have hc1 : Below y0.heap.size y0 y1 := by rw [← hS1]; exact (Below.refl _ _).alloc (Nat.le_refl _) _
      have bGn : Blk y1 y0.heap.size 28 [.int .i64 0, .slice none 0 0, .slice none 0 0] := by rw [← hS1]; exact Blk.new' _ [.int .i64 0, .slice none 0 0, .slice none 0 0] rfl
      clear hS1
      have bG := bGn
      clear bGn
      obtain ⟨G, hG⟩ : ∃ G, G = y0.heap.size := ⟨_, rfl⟩
      rw [← hG] at bG ⊢
      have hGM : M ≤ G := by rw [hG]; exact Z0
      clear hG
      have B1 : Below M W1 y1 := B0.trans (hc1.mono Z0)
      have Z1 : M ≤ y1.heap.size := (HW.out _ B1).2
      refine OneR_mk (hc1.mono (Nat.le_trans HNM Z0)) ?_
      refine anyR_one 1 _ (nthS (nth0)) (by kernel_rfl) (l' := #[true, true, true, false, false, false, false, true, false, false]) rfl ?_
      go_wp2_with fail
      refine (cp_any r A D ca cd y1 (LA.out _ B1).1 (LA.out _ B1).2 la1 la2 HnA.out HnD.out).mono ?_
      rintro e y2 ⟨hc2, A1, D1, ca1, cd1, rfl, oA1, oD1⟩
      have bG := bG.below hc2 bG.lt
      have B2 : Below M W1 y2 := B1.trans (hc2.mono Z1)
      have Z2 : M ≤ y2.heap.size := (HW.out _ B2).2
      go_wp2_with fail
      refine OneR_mk (hc2.mono (Nat.le_trans HNM Z1)) ?_
      refine anyR_one 3 _ (nthS (nthS (nthS (nth0)))) (by kernel_rfl) (l' := #[true, true, true, true, false, false, false, true, false, false]) rfl ?_
      go_wp2_with fail
      have hj := cut_any r A1 D1 ca1 cd1 n y2 (own_A oA1) (own_D oD1) la1 la2
      rw [← HC.out, ← HEC.out] at hj
      refine hj.mono ?_
      clear hj
      rintro e y3 ⟨hc3, A6, D6, ca6, cd6, rfl, lC, lCd⟩
      clear oA1 oD1
      have bG := bG.below hc3 bG.lt
      have B3 : Below M W1 y3 := B2.trans (hc3.mono Z2)
      have Z3 : M ≤ y3.heap.size := (HW.out _ B3).2
      go_wp2_with fail
      refine OneR_mk (hc3.mono (Nat.le_trans HNM Z2)) ?_
      refine anyR_take0 4 _ (nthS (nthS (nthS (nthS (nth0))))) rfl (by kernel_rfl) (by kernel_rfl) (by kernel_rfl) (l' := #[true, true, true, true, true, false, false, true, false, false]) rfl rfl ?_; intro K hK; go_big_quiet_op; go_big_quiet_on
      refine anyR_take0 5 _ (nthS (nthS (nthS (nthS (nthS (nth0)))))) rfl (by kernel_rfl) (by kernel_rfl) (by kernel_rfl) (l' := #[true, true, true, true, true, true, false, true, false, false]) rfl rfl ?_; intro K hK; go_big_quiet_op; go_big_quiet_on
      refine anyR_take0 6 _ (nthS (nthS (nthS (nthS (nthS (nthS (nth0))))))) rfl (by kernel_rfl) (by kernel_rfl) (by kernel_rfl) (l' := #[true, true, true, true, true, true, true, true, false, false]) rfl rfl ?_; intro K hK; go_big_quiet_op; go_big_quiet_on
      refine anyR_one 8 _ (nthS (nthS (nthS (nthS (nthS (nthS (nthS (nthS (nth0))))))))) (by kernel_rfl) (l' := #[true, true, true, true, true, true, true, true, true, false]) rfl ?_
      have cG := bG.row
      have fG := bG.frozen
      unfold Row at cG
      have lCh := Lib.hid (And.intro lC lCd)
      clear lC lCd
      go_wp2_with fail
      refine OneR_mk ((((Below.refl _ _).setCell (p := ⟨G, 0, none⟩) (by dsimp only; omega) _).setCell (p := ⟨G, 1, none⟩) (by dsimp only; omega) _).setCell (p := ⟨G, 2, none⟩) (by dsimp only; omega) _) ?_
      refine anyR_take0 9 _ (nthS (nthS (nthS (nthS (nthS (nthS (nthS (nthS (nthS (nth0)))))))))) rfl (by kernel_rfl) (by kernel_rfl) (by kernel_rfl) (l' := #[true, true, true, true, true, true, true, true, true, true]) rfl rfl ?_; intro K hK; go_big_quiet_op; go_big_quiet_on
      refine anyR_end (by kernel_rfl) ?_
      have bG9 := ((bG.set_ 0 (.int .i64 C.slots)).set_ 1 (.slice A6 C.al.length ca6)).set_ 2 (.slice D6 C.dl.length cd6)
      simp only [List.set_cons_zero, List.set_cons_succ] at bG9
      have hmid : Mid (.pointer (some ⟨G, 0, none⟩)) (((y3.setCell ⟨G, 0, none⟩ (.int .i64 C.slots)).setCell ⟨G, 1, none⟩ (.slice A6 C.al.length ca6)).setCell ⟨G, 2, none⟩ (.slice D6 C.dl.length cd6)) := by
        rw [HMid.out]
        exact ⟨G, A6, D6, ca6, cd6, rfl, hGM, bG9, LiesA.setRec lCh.out.1 bG (by simp [World.setCell]) set3_far, LiesD.setRec lCh.out.2 bG (by simp [World.setCell]) set3_far, ((B3.setCell (p := ⟨G, 0, none⟩) hGM _).setCell (p := ⟨G, 1, none⟩) hGM _).setCell (p := ⟨G, 2, none⟩) hGM _⟩
      clear bG9 cG fG
      go_wp2_with fail
      go_meet
      exact ⟨hmid, rfl⟩
  case rest =>
  obtain ⟨hmid, rfl⟩ := hcut
  rw [HMid.out] at hmid
  obtain ⟨G, A8, D8, ca8, cd8, rfl, hGM, bG, lA8, lD8, hb8⟩ := hmid
  obtain ⟨w4, hw4⟩ : ∃ w4 : World, w4 = wc := ⟨_, rfl⟩
  subst hw4
  clear HMid hb3'
  by_cases hE : EC = 0
  case neg =>
    have hCz := HBad.out hE
    have cG := bG.row
    unfold Row at cG
    have hs := same_any C ⟨0, [], []⟩ A8 D8 none none ca8 cd8 0 0 w4 lA8 lD8 LiesA.nil LiesD.nil (by omega) (by omega) (by simp) (by simp)
    rw [show sameB C ⟨0, [], []⟩ = true by rw [hCz]; simp [sameB]] at hs
    have HS := Lib.hid hs
    have h12 : EC = 1 ∨ EC = 2 := by have := H3.out; omega
    clear hs hCz hE lA8 lD8 bG
    rcases h12 with rfl | rfl
    · go_wp2_with fail
      refine HS.out.mono ?_
      rintro e w5 ⟨rfl, hb5⟩
      have hfin := hb8.trans (hb5.mono (HW.out _ hb8).2)
      go_wp2_with fail
      go_ret
      exact ⟨rfl, by rw [← HN.out]; exact (HW.out _ hfin).1⟩
    · go_wp2_with fail
      refine HS.out.mono ?_
      rintro e w5 ⟨rfl, hb5⟩
      have hfin := hb8.trans (hb5.mono (HW.out _ hb8).2)
      go_wp2_with fail
      go_ret
      exact ⟨rfl, by rw [← HN.out]; exact (HW.out _ hfin).1⟩
  obtain ⟨hCs, hJE, hJR, hAl, hDl⟩ := HLaw.out hE
  subst hE
  clear HLaw HBad H3 HEC
  have HJE := Lib.hid hJE
  have HJR := Lib.hid hJR
  have HAl := Lib.hid hAl
  have HDl := Lib.hid hDl
  have HCs := Lib.hid hCs
  clear hJE hJR hAl hDl hCs
  obtain ⟨K, hK⟩ : ∃ K, K = w4.heap.size := ⟨_, rfl⟩
  have hMK : M ≤ K := by rw [hK]; exact (HW.out _ hb8).2
  have hGK : G < K := by rw [hK]; exact bG.lt
  have HG : Hid (∀ W, Below K w4 W → Row W G [.int .i64 C.slots, .slice A8 C.al.length ca8, .slice D8 C.dl.length cd8] ∧ LiesA W W.heap.size A8 C.al ∧ LiesD W W.heap.size D8 C.dl ∧ Below M W1 W ∧ K ≤ W.heap.size) := Lib.hid fun W h => by
    have hz : K ≤ W.heap.size := by have := h.size; omega
    rw [hK] at h
    exact ⟨(bG.below h bG.lt).row, (lA8.below h).more (by omega), (lD8.below h).more (by omega), hb8.trans (h.mono (by omega)), hz⟩
  have Q4 : Below K w4 w4 := Below.refl _ _
  have hnil : Hid ((A8 = none → C.al = []) ∧ (D8 = none → C.dl = [])) := Lib.hid ⟨lA8.nil_of, lD8.nil_of⟩
  have HK := Lib.hid hK
  clear hK bG lA8 lD8
  have r4 := (HRA.out _ hb8).1
  unfold Row at r4
  have hcp := cp_any r A D ca cd w4 (LA.out _ hb8).1 (LA.out _ hb8).2 la1 la2 HnA.out HnD.out
  go_wp2_with fail
  refine hcp.mono ?_
  clear hcp
  rintro e w5 ⟨hb5, A5, D5, ca5, cd5, rfl, oA5, oD5⟩
  rw [← HK.out] at hb5 oA5 oD5
  have hz5 : K ≤ w5.heap.size := (HG.out _ hb5).2.2.2.2
  clear r4 hb8 Q4
  obtain ⟨R, hR⟩ : ∃ R, R = restR r n := ⟨_, rfl⟩
  have hRa : keepA n r.al = R.al := by rw [hR]; rfl
  have hRd : keepD n r.dl = R.dl := by rw [hR]; rfl
  have hRs : r.slots = R.slots := by rw [hR]; rfl
  have lR1 : R.al.length ≤ r.al.length := by rw [← hRa]; exact List.length_filter_le _ _
  have lR2 : R.dl.length ≤ r.dl.length := by rw [← hRd]; exact List.length_filter_le _ _
  have HRs := Lib.hid hRs
  have HRa := Lib.hid hRa
  have HRd := Lib.hid hRd
  have HR := Lib.hid hR
  clear hRs hRa hRd hR
  go_wp2_with fail
  generalize hX : World.alloc _ _ = w6
  have bX : Blk w6 w5.heap.size 28 [.int .i64 r.slots, .slice A5 r.al.length ca5, .slice D5 r.dl.length cd5] := by rw [← hX]; exact Blk.new' _ [.int .i64 r.slots, .slice A5 r.al.length ca5, .slice D5 r.dl.length cd5] rfl
  have hxa : Below w5.heap.size w5 w6 := by rw [← hX]; exact (Below.refl _ _).alloc (Nat.le_refl _) _
  have oA6 := own_kept (w' := w6) oA5 fun g cs hg h => h.below hxa h.lt
  have oD6 := own_kept (w' := w6) oD5 fun g cs hg h => h.below hxa h.lt
  have hb6 : Below K w4 w6 := hb5.trans (hxa.mono hz5)
  obtain ⟨X, hXe⟩ : ∃ X, X = w5.heap.size := ⟨_, rfl⟩
  rw [← hXe] at bX hz5 ⊢
  clear hX hxa oA5 oD5 hb5 hXe
  have hdel := deleteA_any r.al A5 ca5 K (N + 1) n w6 oA6 la1 ((HRA.out _ (HG.out _ hb6).2.2.2.1).2 0) (by have := (HG.out _ hb6).2.2.2.2; omega) (own_not oA6 (by omega))
  rw [HRa.out] at hdel
  refine hdel.mono ?_
  clear hdel
  rintro e w7 ⟨hg7, A7, c7, rfl, oA7⟩
  have bX7 := bX.grown_ hg7 (fun he => absurd (own_type oA6 he bX) (by decide))
  have oD7 := own_apart oD6 oA6 hg7 (by decide)
  have hb7 : Below K w4 w7 := hb6.grown hg7 (HG.out _ hb6).2.2.2.2 (own_from oA6)
  clear hg7 oA6 oD6 bX hb6
  have cX := bX7.row
  have fX := bX7.frozen
  unfold Row at cX
  have HO7 := Lib.hid (And.intro oA7 (And.intro oD7 hb7))
  clear oA7 oD7 hb7
  go_wp2_with fail
  generalize hY : World.setCell _ _ _ = w8
  have bX8 : Blk w8 X 28 [.int .i64 r.slots, .slice A7 R.al.length c7, .slice D5 r.dl.length cd5] := by rw [← hY]; exact bX7.set_ 1 _
  have oA8 : w8.ownsRow K 45 8 (.slice A7 R.al.length c7) R.al.length (flatA R.al) := by rw [← hY]; exact own_set HO7.out.1 bX7 (by decide)
  have oD8 : w8.ownsRow K 62 3 (.slice D5 r.dl.length cd5) r.dl.length (flatD r.dl) := by rw [← hY]; exact own_set HO7.out.2.1 bX7 (by decide)
  have hb8 : Below K w4 w8 := by rw [← hY]; exact HO7.out.2.2.setCell (p := ⟨X, 1, none⟩) hz5 _
  clear hY cX fX HO7 bX7
  have hdel := deleteD_any r.dl D5 cd5 K (N + 1) n w8 oD8 la2 ((HRA.out _ (HG.out _ hb8).2.2.2.1).2 0) (by have := (HG.out _ hb8).2.2.2.2; omega) (own_not oD8 (by omega))
  rw [HRd.out] at hdel
  refine hdel.mono ?_
  clear hdel
  rintro e w9 ⟨hg9, D9, c9, rfl, oD9⟩
  have bX9 := bX8.grown_ hg9 (fun he => absurd (own_type oD8 he bX8) (by decide))
  have oA9 := own_apart oA8 oD8 hg9 (by decide)
  have hb9 : Below K w4 w9 := hb8.grown hg9 (HG.out _ hb8).2.2.2.2 (own_from oD8)
  clear hg9 oA8 oD8 bX8 hb8
  rw [HRs.out] at bX9
  have cX := bX9.row
  have fX := bX9.frozen
  have cG := (HG.out _ hb9).1
  have hGX : ¬ G = X := by omega
  have hXG : ¬ X = G := by omega
  unfold Row at cX cG
  have HO9 := Lib.hid (And.intro oA9 (And.intro oD9 hb9))
  clear oA9 oD9 hb9
  go_wp2_with fail
  generalize hY : World.setCell _ _ _ = w10
  have bX10 : Blk w10 X 28 [.int .i64 R.slots, .slice A7 R.al.length c7, .slice D9 R.dl.length c9] := by rw [← hY]; exact bX9.set_ 2 _
  have oA10 : w10.ownsRow K 45 8 (.slice A7 R.al.length c7) R.al.length (flatA R.al) := by rw [← hY]; exact own_set HO9.out.1 bX9 (by decide)
  have oD10 : w10.ownsRow K 62 3 (.slice D9 R.dl.length c9) R.dl.length (flatD R.dl) := by rw [← hY]; exact own_set HO9.out.2.1 bX9 (by decide)
  have hb10 : Below K w4 w10 := by rw [← hY]; exact HO9.out.2.2.setCell (p := ⟨X, 2, none⟩) hz5 _
  clear hY cX fX cG HO9 bX9
  have hj := join_any C R A8 D8 A7 D9 ca8 cd8 c7 c9 w10 (HG.out _ hb10).2.1 (HG.out _ hb10).2.2.1 (own_A oA10) (own_D oD10) (by omega) (by omega) (by omega) (by omega) hnil.out.1 hnil.out.2 (own_nilA oA10) (own_nilD oD10)
  rw [HR.out, HJR.out, HJE.out, ← HR.out] at hj
  have HJ := Lib.hid hj
  clear hj
  refine HJ.out.mono ?_
  rintro e w11 ⟨hb11', A12, D12, ca12, cd12, rfl, lJ, lJd⟩
  have hb11 : Below K w4 w11 := hb10.trans (hb11'.mono (HG.out _ hb10).2.2.2.2)
  have bX11 := bX10.below hb11' bX10.lt
  have oA11 := own_kept (w' := w11) oA10 fun g cs hg h => h.below hb11' h.lt
  have lR11 := own_A oA11
  clear HJ hb11' bX10 oA10 oD10 oA11 hb10
  go_wp2_with fail
  generalize hY : World.alloc _ _ = w12
  have bV : Blk w12 w11.heap.size 28 [.int .i64 r.slots, .slice A12 r.al.length ca12, .slice D12 r.dl.length cd12] := by rw [← hY]; exact Blk.new' _ [.int .i64 r.slots, .slice A12 r.al.length ca12, .slice D12 r.dl.length cd12] rfl
  have hva : Below w11.heap.size w11 w12 := by rw [← hY]; exact (Below.refl _ _).alloc (Nat.le_refl _) _
  have bX12 := bX11.below hva bX11.lt
  have lR12 := (lR11.below hva).more hva.size
  have lJ12 := (lJ.below hva).more hva.size
  have lJd12 := (lJd.below hva).more hva.size
  have hb12 : Below K w4 w12 := hb11.trans (hva.mono (HG.out _ hb11).2.2.2.2)
  obtain ⟨V, hV⟩ : ∃ V, V = w11.heap.size := ⟨_, rfl⟩
  rw [← hV] at bV ⊢
  have hzV : K ≤ V := by rw [hV]; exact (HG.out _ hb11).2.2.2.2
  clear hY hva hV bX11 lR11 lJ lJd hb11
  obtain ⟨K2, hK2⟩ : ∃ K2, K2 = w12.heap.size := ⟨_, rfl⟩
  have hVK : V < K2 := by rw [hK2]; exact bV.lt
  have hXK : X < K2 := by rw [hK2]; exact bX12.lt
  have HV : Hid (∀ W, Below K2 w12 W → Row W V [.int .i64 r.slots, .slice A12 r.al.length ca12, .slice D12 r.dl.length cd12] ∧ Row W X [.int .i64 R.slots, .slice A7 R.al.length c7, .slice D9 R.dl.length c9] ∧ LiesA W W.heap.size A12 r.al ∧ LiesD W W.heap.size D12 r.dl ∧ LiesA W W.heap.size A7 R.al ∧ Below K w4 W ∧ K2 ≤ W.heap.size) := Lib.hid fun W h => by
    have hz : K2 ≤ W.heap.size := by have := h.size; omega
    rw [hK2] at h
    exact ⟨(bV.below h bV.lt).row, (bX12.below h bX12.lt).row, (lJ12.below h).more (by omega), (lJd12.below h).more (by omega), (lR12.below h).more (by omega), hb12.trans (h.mono (HG.out _ hb12).2.2.2.2), hz⟩
  have hB2 : K2 ≤ w12.heap.size := by omega
  clear hK2 bV bX12 lR12 lJ12 lJd12 hb12
  obtain ⟨x0, x1, x2', x3, x4, y0, y1, y2, y3, y4, cx, cy, cz, hxy⟩ := counts_add C.al R.al C.dl.length R.dl.length (by omega) (by omega) (by omega) (by omega)
  rw [HR.out, HAl.out, ← List.length_append, HDl.out] at cz
  have CNT : Hid (∀ W, Below K2 w12 W → (Calls Try.prog 28 #[.agg #[.int .i64 r.slots, .slice A r.al.length ca, .slice D r.dl.length cd]] W fun e w' => e = .returned (.agg #[.int .i64 (x0 + y0), .int .i64 (x1 + y1), .int .i64 (x2' + y2), .int .i64 (x3 + y3), .int .i64 (x4 + y4)]) ∧ Below W.heap.size W w')
      ∧ (Calls Try.prog 28 #[.agg #[.int .i64 C.slots, .slice A8 C.al.length ca8, .slice D8 C.dl.length cd8]] W fun e w' => e = .returned (.agg #[.int .i64 x0, .int .i64 x1, .int .i64 x2', .int .i64 x3, .int .i64 x4]) ∧ Below W.heap.size W w')
      ∧ (Calls Try.prog 28 #[.agg #[.int .i64 R.slots, .slice A7 R.al.length c7, .slice D9 R.dl.length c9]] W fun e w' => e = .returned (.agg #[.int .i64 y0, .int .i64 y1, .int .i64 y2, .int .i64 y3, .int .i64 y4]) ∧ Below W.heap.size W w')) := Lib.hid fun W h => by
    obtain ⟨_, _, _, _, lR, hk4, _⟩ := HV.out W h
    obtain ⟨_, lc, _, hm1', _⟩ := HG.out W hk4
    have h1 := counts_any r A D ca cd W (LA.out _ hm1').1 la1 la2
    have h2 := counts_any C A8 D8 ca8 cd8 W lc (by omega) (by omega)
    have h3 := counts_any R A7 D9 c7 c9 W lR (by omega) (by omega)
    rw [cz] at h1
    rw [cx] at h2
    rw [cy] at h3
    simp only [cntV, List.map_cons, List.map_nil] at h1 h2 h3
    exact ⟨h1, h2, h3⟩
  have HXY := Lib.hid hxy
  clear cx cy cz hxy
  go_upto_region 10 with fail
  go_cut [10, 11, 12] (fun s10 s11 s12 W => ∃ g10 g11 g12 : Nat, s10 = .pointer (some ⟨g10, 0, none⟩) ∧ s11 = .pointer (some ⟨g11, 0, none⟩) ∧ s12 = .pointer (some ⟨g12, 0, none⟩) ∧ Below K2 w12 W ∧ Row W g10 [.int .i64 (x0 + y0), .int .i64 (x1 + y1), .int .i64 (x2' + y2), .int .i64 (x3 + y3), .int .i64 (x4 + y4)] ∧ Row W g11 [.int .i64 x0, .int .i64 x1, .int .i64 x2', .int .i64 x3, .int .i64 x4] ∧ Row W g12 [.int .i64 y0, .int .i64 y1, .int .i64 y2, .int .i64 y3, .int .i64 y4])
  case first =>
    have hd : Below K2 w12 w12.drew := (Below.refl _ _).drew
    have x2 : ∀ (x : ExtW K2 w12.drew) (i : Nat), x.val.cell? ⟨N, i, none⟩ = _ := ((HRA.out _ (HG.out _ (HV.out _ hd).2.2.2.2.2.1).2.2.2.1).1).ext (by omega)
    have x5 : ∀ (x : ExtW K2 w12.drew) (i : Nat), x.val.cell? ⟨G, i, none⟩ = _ := ((HG.out _ (HV.out _ hd).2.2.2.2.2.1).1).ext (by omega)
    have x7 : ∀ (x : ExtW K2 w12.drew) (i : Nat), x.val.cell? ⟨X, i, none⟩ = _ := ((HV.out _ hd).2.1).ext (by omega)
    clear hd
    refine wp_region_float (K2) 9 #[false, false, false, false, false, false, false, false, false, false, false, false] fl9 (by kernel_rfl) hB2 ⟨by kernel_rfl, by kernel_rfl, by kernel_rfl, by decide, fun i d ob h => by unfold fl9 at h; split at h <;> first | (cases h; exact ⟨_, rfl, rfl, rfl, fun _ _ => by kernel_rfl⟩) | cases h⟩ rfl ?_; intro Hok
    refine FS_plain 0 _ (nth0) rfl Hok (by kernel_rfl) (by kernel_rfl) (l' := #[true, false, false, false, false, false, false, false, false, false, false, false]) rfl rfl (by decide) rfl ?_; intro K hK; go_big_quiet_op; go_big_quiet_on
    refine FS_call 1 _ (nthS (nth0)) Hok hB2 (by kernel_rfl) (by kernel_rfl) (l' := #[true, true, false, false, false, false, false, false, false, false, false, false]) rfl rfl (by decide) rfl (fun _ => by kernel_rfl) (fun x => (CNT.out x.val (((Below.refl _ _).drew).trans x.below)).1) ?_; simp only [Act.put, List.setIfInBounds_toArray, List.set_cons_succ, List.set_cons_zero]
    refine FS_plain 2 _ (nthS (nthS (nth0))) rfl Hok (by kernel_rfl) (by kernel_rfl) (l' := #[true, true, true, false, false, false, false, false, false, false, false, false]) rfl rfl (by decide) rfl ?_; intro K hK; go_big_quiet_op; go_big_quiet_on
    refine FS_call 3 _ (nthS (nthS (nthS (nth0)))) Hok hB2 (by kernel_rfl) (by kernel_rfl) (l' := #[true, true, true, true, false, false, false, false, false, false, false, false]) rfl rfl (by decide) rfl (fun _ => by kernel_rfl) (fun x => (CNT.out x.val (((Below.refl _ _).drew).trans x.below)).2.1) ?_; simp only [Act.put, List.setIfInBounds_toArray, List.set_cons_succ, List.set_cons_zero]
    refine FS_plain 4 _ (nthS (nthS (nthS (nthS (nth0))))) rfl Hok (by kernel_rfl) (by kernel_rfl) (l' := #[true, true, true, true, true, false, false, false, false, false, false, false]) rfl rfl (by decide) rfl ?_; intro K hK; go_big_quiet_op; go_big_quiet_on
    refine FS_call 5 _ (nthS (nthS (nthS (nthS (nthS (nth0)))))) Hok hB2 (by kernel_rfl) (by kernel_rfl) (l' := #[true, true, true, true, true, true, false, false, false, false, false, false]) rfl rfl (by decide) rfl (fun _ => by kernel_rfl) (fun x => (CNT.out x.val (((Below.refl _ _).drew).trans x.below)).2.2) ?_; simp only [Act.put, List.setIfInBounds_toArray, List.set_cons_succ, List.set_cons_zero]
    refine FS_float3 6 7 8 10 11 12 _ _ _ (by kernel_rfl) (l1 := #[true, true, true, true, true, true, true, false, false, false, false, false]) (l2 := #[true, true, true, true, true, true, false, true, false, false, false, false]) (l3 := #[true, true, true, true, true, true, false, false, true, false, false, false]) rfl rfl rfl rfl rfl rfl (by decide) (by decide) (by decide) ?_ ?_ ?_
    · intro g10 hg10 _
      refine FS_float2 7 8 11 12 _ _ (by kernel_rfl) (l1 := #[true, true, true, true, true, true, true, true, false, false, false, false]) (l2 := #[true, true, true, true, true, true, true, false, true, false, false, false]) rfl rfl rfl rfl (by decide) (by decide) ?_ ?_
      · intro g11 hg11 ne2
        refine FS_float 8 12 _ (by kernel_rfl) (l' := #[true, true, true, true, true, true, true, true, true, false, false, false]) rfl rfl (by decide) ?_
        intro g12 hg12 ne3
        refine FS_end (by kernel_rfl) ?_
        intro W hW hG
        simp only [Act.put, List.setIfInBounds_toArray, List.set_cons_succ, List.set_cons_zero, List.drop_succ_cons, List.drop_zero]
        have d1 : g11 ≠ g10 := ne2 g10 _ List.mem_cons_self
        have d2 : g12 ≠ g11 := ne3 g11 _ List.mem_cons_self
        have d3 : g12 ≠ g10 := ne3 g10 _ (List.mem_cons_of_mem _ List.mem_cons_self)
        have b10 : Blk W g10 53 [.int .i64 0, .int .i64 0, .int .i64 0, .int .i64 0, .int .i64 0] := hG _ _ (by simp)
        have b11 : Blk W g11 53 [.int .i64 0, .int .i64 0, .int .i64 0, .int .i64 0, .int .i64 0] := hG _ _ (by simp)
        have b12 : Blk W g12 53 [.int .i64 0, .int .i64 0, .int .i64 0, .int .i64 0, .int .i64 0] := hG _ _ (by simp)
        have n1 : ¬ g10 = g11 := by omega
        have n2 : ¬ g11 = g10 := by omega
        have n3 : ¬ g10 = g12 := by omega
        have n4 : ¬ g12 = g10 := by omega
        have n5 : ¬ g11 = g12 := by omega
        have n6 : ¬ g12 = g11 := by omega
        clear ne2 ne3 hG Hok x2 x5 x7 d1 d2 d3
        have e10 := b10.row
        have e11 := b11.row
        have e12 := b12.row
        have q10 := b10.frozen
        have q11 := b11.frozen
        have q12 := b12.frozen
        unfold Row at e10 e11 e12
        go_wp2_with fail
        go_meet
        exact ⟨g10, g11, g12, rfl, rfl, rfl, below5 (below5 (below5 (((Below.refl _ _).drew).trans hW) hg10) hg11) hg12, (far5 (far5 (set5 b10) n1) n3).row, (far5 (set5 (far5 b11 n2)) n5).row, (set5 (far5 (far5 b12 n4) n6)).row⟩
      · intro g12 hg12 ne2
        refine FS_float 7 11 _ (by kernel_rfl) (l' := #[true, true, true, true, true, true, true, true, true, false, false, false]) rfl rfl (by decide) ?_
        intro g11 hg11 ne3
        refine FS_end (by kernel_rfl) ?_
        intro W hW hG
        simp only [Act.put, List.setIfInBounds_toArray, List.set_cons_succ, List.set_cons_zero, List.drop_succ_cons, List.drop_zero]
        have d1 : g12 ≠ g10 := ne2 g10 _ List.mem_cons_self
        have d2 : g11 ≠ g12 := ne3 g12 _ List.mem_cons_self
        have d3 : g11 ≠ g10 := ne3 g10 _ (List.mem_cons_of_mem _ List.mem_cons_self)
        have b10 : Blk W g10 53 [.int .i64 0, .int .i64 0, .int .i64 0, .int .i64 0, .int .i64 0] := hG _ _ (by simp)
        have b11 : Blk W g11 53 [.int .i64 0, .int .i64 0, .int .i64 0, .int .i64 0, .int .i64 0] := hG _ _ (by simp)
        have b12 : Blk W g12 53 [.int .i64 0, .int .i64 0, .int .i64 0, .int .i64 0, .int .i64 0] := hG _ _ (by simp)
        have n1 : ¬ g10 = g11 := by omega
        have n2 : ¬ g11 = g10 := by omega
        have n3 : ¬ g10 = g12 := by omega
        have n4 : ¬ g12 = g10 := by omega
        have n5 : ¬ g11 = g12 := by omega
        have n6 : ¬ g12 = g11 := by omega
        clear ne2 ne3 hG Hok x2 x5 x7 d1 d2 d3
        have e10 := b10.row
        have e11 := b11.row
        have e12 := b12.row
        have q10 := b10.frozen
        have q11 := b11.frozen
        have q12 := b12.frozen
        unfold Row at e10 e11 e12
        go_wp2_with fail
        go_meet
        exact ⟨g10, g11, g12, rfl, rfl, rfl, below5 (below5 (below5 (((Below.refl _ _).drew).trans hW) hg10) hg11) hg12, (far5 (far5 (set5 b10) n1) n3).row, (far5 (set5 (far5 b11 n2)) n5).row, (set5 (far5 (far5 b12 n4) n6)).row⟩
    · intro g11 hg11 _
      refine FS_float2 6 8 10 12 _ _ (by kernel_rfl) (l1 := #[true, true, true, true, true, true, true, true, false, false, false, false]) (l2 := #[true, true, true, true, true, true, false, true, true, false, false, false]) rfl rfl rfl rfl (by decide) (by decide) ?_ ?_
      · intro g10 hg10 ne2
        refine FS_float 8 12 _ (by kernel_rfl) (l' := #[true, true, true, true, true, true, true, true, true, false, false, false]) rfl rfl (by decide) ?_
        intro g12 hg12 ne3
        refine FS_end (by kernel_rfl) ?_
        intro W hW hG
        simp only [Act.put, List.setIfInBounds_toArray, List.set_cons_succ, List.set_cons_zero, List.drop_succ_cons, List.drop_zero]
        have d1 : g10 ≠ g11 := ne2 g11 _ List.mem_cons_self
        have d2 : g12 ≠ g10 := ne3 g10 _ List.mem_cons_self
        have d3 : g12 ≠ g11 := ne3 g11 _ (List.mem_cons_of_mem _ List.mem_cons_self)
        have b10 : Blk W g10 53 [.int .i64 0, .int .i64 0, .int .i64 0, .int .i64 0, .int .i64 0] := hG _ _ (by simp)
        have b11 : Blk W g11 53 [.int .i64 0, .int .i64 0, .int .i64 0, .int .i64 0, .int .i64 0] := hG _ _ (by simp)
        have b12 : Blk W g12 53 [.int .i64 0, .int .i64 0, .int .i64 0, .int .i64 0, .int .i64 0] := hG _ _ (by simp)
        have n1 : ¬ g10 = g11 := by omega
        have n2 : ¬ g11 = g10 := by omega
        have n3 : ¬ g10 = g12 := by omega
        have n4 : ¬ g12 = g10 := by omega
        have n5 : ¬ g11 = g12 := by omega
        have n6 : ¬ g12 = g11 := by omega
        clear ne2 ne3 hG Hok x2 x5 x7 d1 d2 d3
        have e10 := b10.row
        have e11 := b11.row
        have e12 := b12.row
        have q10 := b10.frozen
        have q11 := b11.frozen
        have q12 := b12.frozen
        unfold Row at e10 e11 e12
        go_wp2_with fail
        go_meet
        exact ⟨g10, g11, g12, rfl, rfl, rfl, below5 (below5 (below5 (((Below.refl _ _).drew).trans hW) hg10) hg11) hg12, (far5 (far5 (set5 b10) n1) n3).row, (far5 (set5 (far5 b11 n2)) n5).row, (set5 (far5 (far5 b12 n4) n6)).row⟩
      · intro g12 hg12 ne2
        refine FS_float 6 10 _ (by kernel_rfl) (l' := #[true, true, true, true, true, true, true, true, true, false, false, false]) rfl rfl (by decide) ?_
        intro g10 hg10 ne3
        refine FS_end (by kernel_rfl) ?_
        intro W hW hG
        simp only [Act.put, List.setIfInBounds_toArray, List.set_cons_succ, List.set_cons_zero, List.drop_succ_cons, List.drop_zero]
        have d1 : g12 ≠ g11 := ne2 g11 _ List.mem_cons_self
        have d2 : g10 ≠ g12 := ne3 g12 _ List.mem_cons_self
        have d3 : g10 ≠ g11 := ne3 g11 _ (List.mem_cons_of_mem _ List.mem_cons_self)
        have b10 : Blk W g10 53 [.int .i64 0, .int .i64 0, .int .i64 0, .int .i64 0, .int .i64 0] := hG _ _ (by simp)
        have b11 : Blk W g11 53 [.int .i64 0, .int .i64 0, .int .i64 0, .int .i64 0, .int .i64 0] := hG _ _ (by simp)
        have b12 : Blk W g12 53 [.int .i64 0, .int .i64 0, .int .i64 0, .int .i64 0, .int .i64 0] := hG _ _ (by simp)
        have n1 : ¬ g10 = g11 := by omega
        have n2 : ¬ g11 = g10 := by omega
        have n3 : ¬ g10 = g12 := by omega
        have n4 : ¬ g12 = g10 := by omega
        have n5 : ¬ g11 = g12 := by omega
        have n6 : ¬ g12 = g11 := by omega
        clear ne2 ne3 hG Hok x2 x5 x7 d1 d2 d3
        have e10 := b10.row
        have e11 := b11.row
        have e12 := b12.row
        have q10 := b10.frozen
        have q11 := b11.frozen
        have q12 := b12.frozen
        unfold Row at e10 e11 e12
        go_wp2_with fail
        go_meet
        exact ⟨g10, g11, g12, rfl, rfl, rfl, below5 (below5 (below5 (((Below.refl _ _).drew).trans hW) hg10) hg11) hg12, (far5 (far5 (set5 b10) n1) n3).row, (far5 (set5 (far5 b11 n2)) n5).row, (set5 (far5 (far5 b12 n4) n6)).row⟩
    · intro g12 hg12 _
      refine FS_float2 6 7 10 11 _ _ (by kernel_rfl) (l1 := #[true, true, true, true, true, true, true, false, true, false, false, false]) (l2 := #[true, true, true, true, true, true, false, true, true, false, false, false]) rfl rfl rfl rfl (by decide) (by decide) ?_ ?_
      · intro g10 hg10 ne2
        refine FS_float 7 11 _ (by kernel_rfl) (l' := #[true, true, true, true, true, true, true, true, true, false, false, false]) rfl rfl (by decide) ?_
        intro g11 hg11 ne3
        refine FS_end (by kernel_rfl) ?_
        intro W hW hG
        simp only [Act.put, List.setIfInBounds_toArray, List.set_cons_succ, List.set_cons_zero, List.drop_succ_cons, List.drop_zero]
        have d1 : g10 ≠ g12 := ne2 g12 _ List.mem_cons_self
        have d2 : g11 ≠ g10 := ne3 g10 _ List.mem_cons_self
        have d3 : g11 ≠ g12 := ne3 g12 _ (List.mem_cons_of_mem _ List.mem_cons_self)
        have b10 : Blk W g10 53 [.int .i64 0, .int .i64 0, .int .i64 0, .int .i64 0, .int .i64 0] := hG _ _ (by simp)
        have b11 : Blk W g11 53 [.int .i64 0, .int .i64 0, .int .i64 0, .int .i64 0, .int .i64 0] := hG _ _ (by simp)
        have b12 : Blk W g12 53 [.int .i64 0, .int .i64 0, .int .i64 0, .int .i64 0, .int .i64 0] := hG _ _ (by simp)
        have n1 : ¬ g10 = g11 := by omega
        have n2 : ¬ g11 = g10 := by omega
        have n3 : ¬ g10 = g12 := by omega
        have n4 : ¬ g12 = g10 := by omega
        have n5 : ¬ g11 = g12 := by omega
        have n6 : ¬ g12 = g11 := by omega
        clear ne2 ne3 hG Hok x2 x5 x7 d1 d2 d3
        have e10 := b10.row
        have e11 := b11.row
        have e12 := b12.row
        have q10 := b10.frozen
        have q11 := b11.frozen
        have q12 := b12.frozen
        unfold Row at e10 e11 e12
        go_wp2_with fail
        go_meet
        exact ⟨g10, g11, g12, rfl, rfl, rfl, below5 (below5 (below5 (((Below.refl _ _).drew).trans hW) hg10) hg11) hg12, (far5 (far5 (set5 b10) n1) n3).row, (far5 (set5 (far5 b11 n2)) n5).row, (set5 (far5 (far5 b12 n4) n6)).row⟩
      · intro g11 hg11 ne2
        refine FS_float 6 10 _ (by kernel_rfl) (l' := #[true, true, true, true, true, true, true, true, true, false, false, false]) rfl rfl (by decide) ?_
        intro g10 hg10 ne3
        refine FS_end (by kernel_rfl) ?_
        intro W hW hG
        simp only [Act.put, List.setIfInBounds_toArray, List.set_cons_succ, List.set_cons_zero, List.drop_succ_cons, List.drop_zero]
        have d1 : g11 ≠ g12 := ne2 g12 _ List.mem_cons_self
        have d2 : g10 ≠ g11 := ne3 g11 _ List.mem_cons_self
        have d3 : g10 ≠ g12 := ne3 g12 _ (List.mem_cons_of_mem _ List.mem_cons_self)
        have b10 : Blk W g10 53 [.int .i64 0, .int .i64 0, .int .i64 0, .int .i64 0, .int .i64 0] := hG _ _ (by simp)
        have b11 : Blk W g11 53 [.int .i64 0, .int .i64 0, .int .i64 0, .int .i64 0, .int .i64 0] := hG _ _ (by simp)
        have b12 : Blk W g12 53 [.int .i64 0, .int .i64 0, .int .i64 0, .int .i64 0, .int .i64 0] := hG _ _ (by simp)
        have n1 : ¬ g10 = g11 := by omega
        have n2 : ¬ g11 = g10 := by omega
        have n3 : ¬ g10 = g12 := by omega
        have n4 : ¬ g12 = g10 := by omega
        have n5 : ¬ g11 = g12 := by omega
        have n6 : ¬ g12 = g11 := by omega
        clear ne2 ne3 hG Hok x2 x5 x7 d1 d2 d3
        have e10 := b10.row
        have e11 := b11.row
        have e12 := b12.row
        have q10 := b10.frozen
        have q11 := b11.frozen
        have q12 := b12.frozen
        unfold Row at e10 e11 e12
        go_wp2_with fail
        go_meet
        exact ⟨g10, g11, g12, rfl, rfl, rfl, below5 (below5 (below5 (((Below.refl _ _).drew).trans hW) hg10) hg11) hg12, (far5 (far5 (set5 b10) n1) n3).row, (far5 (set5 (far5 b11 n2)) n5).row, (set5 (far5 (far5 b12 n4) n6)).row⟩
  case rest =>
  obtain ⟨g10, g11, g12, rfl, rfl, rfl, hbc, r10, r11, r12⟩ := hcut
  obtain ⟨rV, _, lV, lVd, _, hbk, _⟩ := HV.out _ hbc
  obtain ⟨rG, _, _, hbm, _⟩ := HG.out _ hbk
  obtain ⟨rN, rN1⟩ := HRA.out _ hbm
  have q10 : Hid (∀ k v, [x0 + y0, x1 + y1, x2' + y2, x3 + y3, x4 + y4][k]? = some v → wc.cell? ⟨g10, k, none⟩ = some (.int .i64 v)) := Lib.hid fun k v hv => (r10 k).trans (ints_get hv)
  have q11 : Hid (∀ k v, [x0, x1, x2', x3, x4][k]? = some v → wc.cell? ⟨g11, k, none⟩ = some (.int .i64 v)) := Lib.hid fun k v hv => (r11 k).trans (ints_get hv)
  have q12 : Hid (∀ k v, [y0, y1, y2, y3, y4][k]? = some v → wc.cell? ⟨g12, k, none⟩ = some (.int .i64 v)) := Lib.hid fun k v hv => (r12 k).trans (ints_get hv)
  have ROWS := Lib.hid (And.intro rV (And.intro rG (And.intro rN rN1)))
  have HBC := Lib.hid hbc
  clear r10 r11 r12 rV rG rN rN1 hbc hbk hbm CNT lV lVd
  go_wp2_with fail
  go_loopw [4, 62] (fun s4 i wr => ∃ (k m : Nat), k ≤ 5 ∧ i = .int .i64 k ∧ s4 = .bool false ∧ wr = wc.drewN m) (fun _ i _ => 5 - (intOf i).toNat)
  case atStart => exact ⟨0, 0, by omega, rfl, rfl, rfl⟩
  case round =>
    obtain ⟨k, m, hk, rfl, rfl, rfl⟩ := hrel
    by_cases hlt : k < 5
    · obtain ⟨x, y, hx, hy, hxy, b1, b2, b3, b4⟩ := HXY.out k hlt
      have c10 := q10.out k _ hxy
      have c11 := q11.out k _ hx
      have c12 := q12.out k _ hy
      have hki : (k : Int) < 5 := by omega
      clear hx hy hxy
      go_wp2_with fail
      go_quiet (fail)
      go_wp2_with fail
      go_roundw
      case rel => exact ⟨k + 1, m + nq, by omega, by go_num, rfl, by simp⟩
      case measure => simp [intOf]; omega
    · have hk5 : k = 5 := by omega
      subst hk5
      obtain ⟨rV, rG, rN, rN1⟩ := ROWS.out
      unfold Row at rV rG rN rN1
      have hcs : (C.slots == n) = true := by rw [HCs.out]; simp
      have hbd : Below K2 w12 (wc.drewN m) := below_drewN HBC.out _
      obtain ⟨_, _, lV, lVd, _, hbk, hz⟩ := HV.out _ hbd
      have hbm := (HG.out _ hbk).2.2.2.1
      have hs := same_any r r A12 D12 A D ca12 cd12 ca cd (wc.drewN m) lV lVd (LA.out _ hbm).1 (LA.out _ hbm).2 la1 la2 la1 la2
      rw [show sameB r r = true by simp [sameB]] at hs
      have HS := Lib.hid hs
      have HBD := Lib.hid hbd
      have HZ := Lib.hid hz
      clear hs lV lVd hbk hbm hbd hz
      go_wp2_with fail
      refine HS.out.mono ?_
      rintro e w13 ⟨rfl, hb13⟩
      have hbe : Below K2 w12 w13 := HBD.out.trans (hb13.mono HZ.out)
      have hbk := (HV.out _ hbe).2.2.2.2.2.1
      have hbm := (HG.out _ hbk).2.2.2.1
      have cG := (HG.out _ hbk).1
      have cN := (HRA.out _ hbm).2
      unfold Row at cG cN
      have hfin := Lib.hid (HW.out _ hbm).1
      clear hb13 hbe hbk hbm rV rG rN rN1
      go_wp2_with fail
      go_ret
      exact ⟨rfl, by rw [← HN.out]; exact hfin.out⟩

end Go.Proofs.Ytllakkepphpfmaa
