/- Walk: Join of the reference. -/
import Derived.Test.YtllakkepphpfmaaJoin
import Derived.Test.YtllakkepphpfmaaRetP
import Derived.Test.YtllakkepphpfmaaRcheck
namespace Go.Proofs.Ytllakkepphpfmaa
open Go.RowKit
open Rc

/-- The first alone is looked at. -/
def headA (l : List Att) (n : Int) : Bool := match l with | [] => false | x :: _ => decide (x.s < n)
def headD (l : List Dlv) (n : Int) : Bool := match l with | [] => false | x :: _ => decide (x.sl < n)
theorem chainA_min : ∀ (l : List Att) (at_ : Int), chainA at_ l → ∀ x ∈ l, at_ ≤ x.s
  | [], _, _, x, hx => by cases hx
  | a :: l, at_, h, x, hx => by
    obtain ⟨h0, _, hc⟩ := h
    rcases List.mem_cons.1 hx with rfl | hx
    · exact h0
    · have := chainA_min l a.s hc x hx
      omega
theorem chainD_min : ∀ (l : List Dlv) (at_ : Int), chainD at_ l → ∀ x ∈ l, at_ ≤ x.sl
  | [], _, _, x, hx => by cases hx
  | a :: l, at_, h, x, hx => by
    obtain ⟨h0, _, hc⟩ := h
    rcases List.mem_cons.1 hx with rfl | hx
    · exact h0
    · have := chainD_min l a.sl hc x hx
      omega
theorem anyA_head {l : List Att} {at_ : Int} (h : chainA at_ l) (n : Int) : (l.any fun x => decide (x.s < n)) = headA l n := by
  cases l with
  | nil => rfl
  | cons a l =>
    simp only [headA, List.any_cons]
    by_cases ha : a.s < n
    · simp [ha]
    · have : (l.any fun x => decide (x.s < n)) = false := by
        rw [List.any_eq_false]
        intro x hx
        have := chainA_min l a.s h.2.2 x hx
        simp; omega
      rw [this]; simp
theorem anyD_head {l : List Dlv} {at_ : Int} (h : chainD at_ l) (n : Int) : (l.any fun x => decide (x.sl < n)) = headD l n := by
  cases l with
  | nil => rfl
  | cons a l =>
    simp only [headD, List.any_cons]
    by_cases ha : a.sl < n
    · simp [ha]
    · have : (l.any fun x => decide (x.sl < n)) = false := by
        rw [List.any_eq_false]
        intro x hx
        have := chainD_min l a.sl h.2.2 x hx
        simp; omega
      rw [this]; simp
theorem early_ref {a b : Rec} (h : good b = true) : earlyB a b = (decide (b.slots < a.slots) || (headA b.al a.slots || headD b.dl a.slots)) := by
  obtain ⟨g0, g1, g2, g3, g4, g5⟩ := good_parts h
  unfold earlyB
  rw [anyA_head (chainA_of g1 b.al none [] (-1) g4), anyD_head (chainD_of g1 b.dl none g5)]

set_option maxRecDepth 100000 in
set_option maxHeartbeats 8000000 in
theorem rjoin_any (a b : Rec) (A D A' D' : Option Addr) (ca cd ca' cd' : Nat) (w : World) (hA : LiesA w w.heap.size A a.al) (hD : LiesD w w.heap.size D a.dl) (hA' : LiesA w w.heap.size A' b.al) (hD' : LiesD w w.heap.size D' b.dl) (la : a.al.length ≤ 1000000) (ld : a.dl.length ≤ 1000000) (la' : b.al.length ≤ 1000000) (ld' : b.dl.length ≤ 1000000)
    (nA : A = none → a.al = []) (nD : D = none → a.dl = []) (nA' : A' = none → b.al = []) (nD' : D' = none → b.dl = []) :
    Calls Try.prog 33 #[.agg #[.int .i64 a.slots, .slice A a.al.length ca, .slice D a.dl.length cd], .agg #[.int .i64 b.slots, .slice A' b.al.length ca', .slice D' b.dl.length cd']] w (RecRes w (joinR a b) (joinE a b)) := by
  obtain ⟨R, hR⟩ : ∃ R, R = joinR a b := ⟨_, rfl⟩
  obtain ⟨E, hE⟩ : ∃ E, E = joinE a b := ⟨_, rfl⟩
  rw [← hR, ← hE]
  have HRR := Lib.hid hR
  have HEE := Lib.hid hE
  have HnA := Lib.hid nA
  have HnD := Lib.hid nD
  have HnA' := Lib.hid nA'
  have HnD' := Lib.hid nD'
  clear hR hE nA nD nA' nD'
  go_enter Try.func33, Try.ntmps33
  go_wp2_with fail
  generalize hW0 : World.alloc _ _ = W0
  have bA : Blk W0 w.heap.size 28 [.int .i64 a.slots, .slice A a.al.length ca, .slice D a.dl.length cd] := by rw [← hW0]; exact ((Blk.new' _ [.int .i64 a.slots, .slice A a.al.length ca, .slice D a.dl.length cd] rfl).alloc _).alloc _
  have bB : Blk W0 (w.heap.size + 1) 28 [.int .i64 b.slots, .slice A' b.al.length ca', .slice D' b.dl.length cd'] := by rw [← hW0]; exact (Blk.new' _ [.int .i64 b.slots, .slice A' b.al.length ca', .slice D' b.dl.length cd'] (by simp)).alloc _
  have bO : Blk W0 (w.heap.size + 1 + 1) 28 [.int .i64 0, .slice none 0 0, .slice none 0 0] := by rw [← hW0]; exact Blk.new' _ [.int .i64 0, .slice none 0 0, .slice none 0 0] (by simp)
  have hb0 : Below w.heap.size w W0 := by rw [← hW0]; exact (((Below.refl _ _).alloc (Nat.le_refl _) _).alloc (by simp) _).alloc (by simp; omega) _
  clear hW0
  obtain ⟨N, hN⟩ : ∃ N, N = w.heap.size := ⟨_, rfl⟩
  rw [← hN] at bA bB bO hb0 hA hD hA' hD' ⊢
  obtain ⟨M, hM⟩ : ∃ M, M = W0.heap.size := ⟨_, rfl⟩
  have hRM : N + 1 + 1 < M := by rw [hM]; exact bO.lt
  have HRM : N + 1 + 1 ≤ M := by omega
  have LA : Hid (∀ W, Below M W0 W → LiesA W W.heap.size A a.al ∧ LiesD W W.heap.size D a.dl ∧ LiesA W W.heap.size A' b.al ∧ LiesD W W.heap.size D' b.dl) := Lib.hid fun W h =>
    ⟨((hA.below hb0).below_le h (by omega)).more (by have := h.size; omega), ((hD.below hb0).below_le h (by omega)).more (by have := h.size; omega), ((hA'.below hb0).below_le h (by omega)).more (by have := h.size; omega), ((hD'.below hb0).below_le h (by omega)).more (by have := h.size; omega)⟩
  have HRA : Hid (∀ W, Below M W0 W → Row W N [.int .i64 a.slots, .slice A a.al.length ca, .slice D a.dl.length cd] ∧ Row W (N + 1) [.int .i64 b.slots, .slice A' b.al.length ca', .slice D' b.dl.length cd']) := Lib.hid fun W h => ⟨(bA.below h (by omega)).row, (bB.below h (by omega)).row⟩
  have HW : Hid (∀ W, Below M W0 W → M ≤ W.heap.size) := Lib.hid fun W h => by have := h.size; omega
  have HN := Lib.hid hN
  have HM := Lib.hid hM
  clear hN hA hD hA' hD' bA bB
  refine (rcheck_any a A D ca cd W0 (LA.out _ (Below.refl _ _)).1 (LA.out _ (Below.refl _ _)).2.1 (by omega) (by omega)).mono ?_
  rw [← check_agree]
  rintro e w1 ⟨rfl, hb1⟩
  rw [← hM] at hb1
  clear hM
  cases hga : good a with
  | false =>
    have HR : Hid (R = ⟨0, [], []⟩ ∧ E = 1) := Lib.hid (by rw [HRR.out, HEE.out]; simp [joinR, joinE, hga])
    rw [show checkE a = 1 by simp [checkE, hga]]
    have bOn := bO.below hb1 hRM
    have hbn := hb1
    clear hga HRR HEE hb1
    have C7 := Lib.hid (((bOn.set_ 0 (.int .i64 0)).set_ 1 (.slice none 0 0)).set_ 2 (.slice none 0 0)).row
    have cO := bOn.row
    have fO := bOn.frozen
    unfold Row at cO
    clear bOn
    go_wp2_with fail
    have c7 := C7.out
    unfold Row at c7
    simp only [List.set_cons_zero, List.set_cons_succ] at c7
    refine bodyPost_ret (v := .tuple #[.agg #[.int .i64 0, .slice none 0 0, .slice none 0 0], .int .i64 1]) (by simp [results, Try.results33, go_sem, c7]) rfl ?_
    rw [HR.out.1, HR.out.2]
    exact ⟨by rw [← HN.out]; exact (((hb0.trans (hbn.mono (by omega))).setCell (p := ⟨N + 1 + 1, 0, none⟩) (by dsimp only; omega) _).setCell (p := ⟨N + 1 + 1, 1, none⟩) (by dsimp only; omega) _).setCell (p := ⟨N + 1 + 1, 2, none⟩) (by dsimp only; omega) _, none, none, 0, 0, rfl, LiesA.nil, LiesD.nil⟩
  | true =>
  rw [show checkE a = 0 by simp [checkE, hga]]
  have r1 := (HRA.out _ hb1).2
  unfold Row at r1
  go_wp2_with fail
  refine (rcheck_any b A' D' ca' cd' w1 (LA.out _ hb1).2.2.1 (LA.out _ hb1).2.2.2 (by omega) (by omega)).mono ?_
  rw [← check_agree]
  rintro e w2 ⟨rfl, hb2'⟩
  have hb2 : Below M W0 w2 := hb1.trans (hb2'.mono (HW.out _ hb1))
  clear hb1 hb2' r1
  cases hgb : good b with
  | false =>
    have HR : Hid (R = ⟨0, [], []⟩ ∧ E = 1) := Lib.hid (by rw [HRR.out, HEE.out]; simp [joinR, joinE, hga, hgb])
    rw [show checkE b = 1 by simp [checkE, hgb]]
    have bOn := bO.below hb2 hRM
    have hbn := hb2
    clear hga hgb HRR HEE hb2
    have C7 := Lib.hid (((bOn.set_ 0 (.int .i64 0)).set_ 1 (.slice none 0 0)).set_ 2 (.slice none 0 0)).row
    have cO := bOn.row
    have fO := bOn.frozen
    unfold Row at cO
    clear bOn
    go_wp2_with fail
    have c7 := C7.out
    unfold Row at c7
    simp only [List.set_cons_zero, List.set_cons_succ] at c7
    refine bodyPost_ret (v := .tuple #[.agg #[.int .i64 0, .slice none 0 0, .slice none 0 0], .int .i64 1]) (by simp [results, Try.results33, go_sem, c7]) rfl ?_
    rw [HR.out.1, HR.out.2]
    exact ⟨by rw [← HN.out]; exact (((hb0.trans (hbn.mono (by omega))).setCell (p := ⟨N + 1 + 1, 0, none⟩) (by dsimp only; omega) _).setCell (p := ⟨N + 1 + 1, 1, none⟩) (by dsimp only; omega) _).setCell (p := ⟨N + 1 + 1, 2, none⟩) (by dsimp only; omega) _, none, none, 0, 0, rfl, LiesA.nil, LiesD.nil⟩
  | true =>
  rw [show checkE b = 0 by simp [checkE, hgb]]
  obtain ⟨_, _, ga1', ga2', _, _⟩ := good_parts hga
  obtain ⟨_, _, gb1', gb2', _, _⟩ := good_parts hgb
  have ga1 : a.al.length ≤ 100000 := by omega
  have ga2 : a.dl.length ≤ 100000 := by omega
  have gb1 : b.al.length ≤ 100000 := by omega
  have gb2 : b.dl.length ≤ 100000 := by omega
  have HR1 : Hid (earlyB a b = true → R = ⟨0, [], []⟩ ∧ E = 11) := Lib.hid (fun h => by rw [HRR.out, HEE.out]; simp [joinR, joinE, hga, hgb, h])
  have HR2 : Hid (earlyB a b = false → R = ⟨b.slots, a.al ++ b.al, a.dl ++ b.dl⟩ ∧ E = 0) := Lib.hid (fun h => by rw [HRR.out, HEE.out]; simp [joinR, joinE, hga, hgb, h])
  have HER := Lib.hid (early_ref (a := a) hgb)
  clear hga hgb HRR HEE ga1' ga2' gb1' gb2'
  have r2 := (HRA.out _ hb2).2
  unfold Row at r2
  go_upto_region 3 with fail
  go_cut [6, 7] (fun s6 s7 W => s6 = .slice A' b.al.length ca' ∧ s7 = .slice D' b.dl.length cd' ∧ Below M W0 W)
  case first =>
    go_quiet (fail)
    go_wp2_with fail
    go_meet
    exact ⟨rfl, rfl, below_drewN hb2 _⟩
  case rest =>
  obtain ⟨rfl, rfl, hb3⟩ := hcut
  obtain ⟨w3, hw3⟩ : ∃ w3 : World, w3 = wc := ⟨_, rfl⟩
  subst hw3
  clear hb2 r2
  obtain ⟨EB, hEB⟩ : ∃ EB, EB = earlyB a b := ⟨_, rfl⟩
  rw [← hEB] at HR1 HR2 HER
  clear hEB
  go_upto_region 4 with fail
  go_cut [56] (fun s56 W => s56 = .bool EB ∧ Below M W0 W)
  case first =>
    have r3 := (HRA.out _ hb3).1
    have q3 := (HRA.out _ hb3).2
    unfold Row at r3 q3
    by_cases hs : b.slots < a.slots
    · have d0 : decide (b.slots < a.slots) = true := by simpa using hs
      have HV := Lib.hid (show true = EB by rw [HER.out, d0]; rfl)
      clear HR1 HR2 HER
      go_quiet (fail)
      go_wp2_with fail
      go_meet
      exact ⟨by rw [← HV.out], below_drewN hb3 _⟩
    have d0 : decide (b.slots < a.slots) = false := by simpa using hs
    obtain ⟨bs, bal, bdl⟩ := b
    dsimp only at *
    have lx := (LA.out _ hb3).2.2.1
    have ly := (LA.out _ hb3).2.2.2
    cases bal with
    | nil =>
      cases bdl with
      | nil =>
        have HV := Lib.hid (show false = EB by rw [HER.out, d0]; rfl)
        clear HR1 HR2 HER lx ly
        go_quiet (fail)
        go_wp2_with fail
        go_meet
        exact ⟨by rw [← HV.out], below_drewN hb3 _⟩
      | cons y dl2 =>
        obtain ⟨by_, offy, eD, _, hcsy⟩ := ly.at_ (k := 0) (a := y) rfl
        have cy := (hcsy 0 y rfl).2.2
        rw [show offy + 0 * 3 + 2 = offy + 2 by omega] at cy
        subst eD
        have hl0 : decide ((0 : Int) < ((dl2.length + 1 : Nat) : Int)) = true := by simp
        by_cases hy : y.sl < a.slots
        · have d2 : decide (y.sl < a.slots) = true := by simpa using hy
          have HV := Lib.hid (show true = EB by rw [HER.out, d0]; simp [headA, headD, hy])
          clear HR1 HR2 HER lx ly hcsy
          go_quiet (fail)
          go_wp2_with fail
          go_meet
          exact ⟨by rw [← HV.out], below_drewN hb3 _⟩
        · have d2 : decide (y.sl < a.slots) = false := by simpa using hy
          have HV := Lib.hid (show false = EB by rw [HER.out, d0]; simp [headA, headD]; omega)
          clear HR1 HR2 HER lx ly hcsy
          go_quiet (fail)
          go_wp2_with fail
          go_meet
          exact ⟨by rw [← HV.out], below_drewN hb3 _⟩
    | cons x al2 =>
      obtain ⟨bx, offx, eA, _, hcsx⟩ := lx.at_ (k := 0) (a := x) rfl
      have cx := (hcsx 0 x rfl).1
      rw [show offx + 0 * 8 = offx by omega] at cx
      subst eA
      have hl1 : decide ((0 : Int) < ((al2.length + 1 : Nat) : Int)) = true := by simp
      by_cases hx : x.s < a.slots
      · have d1 : decide (x.s < a.slots) = true := by simpa using hx
        have HV := Lib.hid (show true = EB by rw [HER.out, d0]; simp [headA, hx])
        clear HR1 HR2 HER lx ly hcsx
        go_quiet (fail)
        go_wp2_with fail
        go_meet
        exact ⟨by rw [← HV.out], below_drewN hb3 _⟩
      · have d1 : decide (x.s < a.slots) = false := by simpa using hx
        cases bdl with
        | nil =>
          have HV := Lib.hid (show false = EB by rw [HER.out, d0]; simp [headA, headD]; omega)
          clear HR1 HR2 HER lx ly hcsx
          go_quiet (fail)
          go_wp2_with fail
          go_meet
          exact ⟨by rw [← HV.out], below_drewN hb3 _⟩
        | cons y dl2 =>
          obtain ⟨by_, offy, eD, _, hcsy⟩ := ly.at_ (k := 0) (a := y) rfl
          have cy := (hcsy 0 y rfl).2.2
          rw [show offy + 0 * 3 + 2 = offy + 2 by omega] at cy
          subst eD
          have hl0 : decide ((0 : Int) < ((dl2.length + 1 : Nat) : Int)) = true := by simp
          by_cases hy : y.sl < a.slots
          · have d2 : decide (y.sl < a.slots) = true := by simpa using hy
            have HV := Lib.hid (show true = EB by rw [HER.out, d0]; simp [headA, headD, hy])
            clear HR1 HR2 HER lx ly hcsy hcsx
            go_quiet (fail)
            go_wp2_with fail
            go_meet
            exact ⟨by rw [← HV.out], below_drewN hb3 _⟩
          · have d2 : decide (y.sl < a.slots) = false := by simpa using hy
            have HV := Lib.hid (show false = EB by rw [HER.out, d0]; simp [headA, headD]; omega)
            clear HR1 HR2 HER lx ly hcsy hcsx
            go_quiet (fail)
            go_wp2_with fail
            go_meet
            exact ⟨by rw [← HV.out], below_drewN hb3 _⟩
  case rest =>
  obtain ⟨rfl, hb4⟩ := hcut
  obtain ⟨w4, hw4⟩ : ∃ w4 : World, w4 = wc := ⟨_, rfl⟩
  subst hw4
  clear hb3 HER
  cases EB with
  | true =>
    have HR := Lib.hid (HR1.out rfl)
    have bOn := bO.below hb4 hRM
    have hbn := hb4
    clear HR1 HR2 hb4
    have C7 := Lib.hid (((bOn.set_ 0 (.int .i64 0)).set_ 1 (.slice none 0 0)).set_ 2 (.slice none 0 0)).row
    have cO := bOn.row
    have fO := bOn.frozen
    unfold Row at cO
    clear bOn
    go_wp2_with fail
    have c7 := C7.out
    unfold Row at c7
    simp only [List.set_cons_zero, List.set_cons_succ] at c7
    refine bodyPost_ret (v := .tuple #[.agg #[.int .i64 0, .slice none 0 0, .slice none 0 0], .int .i64 11]) (by simp [results, Try.results33, go_sem, c7]) rfl ?_
    rw [HR.out.1, HR.out.2]
    exact ⟨by rw [← HN.out]; exact (((hb0.trans (hbn.mono (by omega))).setCell (p := ⟨N + 1 + 1, 0, none⟩) (by dsimp only; omega) _).setCell (p := ⟨N + 1 + 1, 1, none⟩) (by dsimp only; omega) _).setCell (p := ⟨N + 1 + 1, 2, none⟩) (by dsimp only; omega) _, none, none, 0, 0, rfl, LiesA.nil, LiesD.nil⟩
  | false =>
  have HR := Lib.hid (HR2.out rfl)
  clear HR1 HR2
  have r4 := (HRA.out _ hb4).1
  have q4 := (HRA.out _ hb4).2
  have z4 := HW.out _ hb4
  have HRAd : Hid (∀ W, Below M W0 W → LiesA W W.heap.size A a.al ∧ LiesD W W.heap.size D a.dl ∧ LiesA W W.heap.size A' b.al ∧ LiesD W W.heap.size D' b.dl) := LA
  obtain ⟨i0, hi, hz0, hz1, hz2⟩ := info_parts Try.infoAtt
  have HI := Lib.hid (And.intro hi (And.intro hz0 (And.intro hz1 hz2)))
  obtain ⟨j0, ji, jz0, jz1, jz2⟩ := info_parts Try.infoDlv
  have HJ := Lib.hid (And.intro ji (And.intro jz0 (And.intro jz1 jz2)))
  clear hi hz0 hz1 hz2 ji jz0 jz1 jz2
  have bO4 := bO.below hb4 hRM
  obtain ⟨X, hX⟩ : ∃ X, X = w4.heap.size := ⟨_, rfl⟩
  have HX := Lib.hid hX
  rw [← hX] at z4
  have hN4 : N < w4.heap.size := by omega
  have hN14 : N + 1 < w4.heap.size := by omega
  have nA1 : Hid (A = none → a.al.length = 0) := Lib.hid fun h => by rw [HnA.out h]; rfl
  have nA2 : Hid (A' = none → b.al.length = 0) := Lib.hid fun h => by rw [HnA'.out h]; rfl
  have nD1 : Hid (D = none → a.dl.length = 0) := Lib.hid fun h => by rw [HnD.out h]; rfl
  have nD2 : Hid (D' = none → b.dl.length = 0) := Lib.hid fun h => by rw [HnD'.out h]; rfl
  have S1 : Hid (∀ W, Below M W0 W → ∀ ad, A = some ad → ∀ j u, (flatA a.al)[j]? = some u → W.cell? (ad.add j) = some u) := Lib.hid fun W h ad ha => by
    have h1 := (LA.out W h).1
    subst ha
    exact Lies.news (f := Att.row) row_len_A (by decide) h1
  have S2 : Hid (∀ W, Below M W0 W → ∀ ad, A' = some ad → ∀ j u, (flatA b.al)[j]? = some u → W.cell? (ad.add j) = some u) := Lib.hid fun W h ad ha => by
    have h1 := (LA.out W h).2.2.1
    subst ha
    exact Lies.news (f := Att.row) row_len_A (by decide) h1
  have S3 : Hid (∀ W, Below M W0 W → ∀ ad, D = some ad → ∀ j u, (flatD a.dl)[j]? = some u → W.cell? (ad.add j) = some u) := Lib.hid fun W h ad ha => by
    have h1 := (LA.out W h).2.1
    subst ha
    exact Lies.news (f := Dlv.row) row_len_D (by decide) h1
  have S4 : Hid (∀ W, Below M W0 W → ∀ ad, D' = some ad → ∀ j u, (flatD b.dl)[j]? = some u → W.cell? (ad.add j) = some u) := Lib.hid fun W h ad ha => by
    have h1 := (LA.out W h).2.2.2
    subst ha
    exact Lies.news (f := Dlv.row) row_len_D (by decide) h1
  unfold Row at r4 q4
  go_upto_region 7 with fail
  generalize hW5 : World.alloc _ _ = y5
  have bXy5 : Blk y5 X 28 [.int .i64 b.slots, .slice none 0 0, .slice none 0 0] := by rw [← hW5]; exact Blk.new' _ [.int .i64 b.slots, .slice none 0 0, .slice none 0 0] hX
  have bOy5 : Blk y5 (N + 1 + 1) 28 [.int .i64 0, .slice none 0 0, .slice none 0 0] := by rw [← hW5]; exact bO4.alloc _
  have hby5 : Below M W0 y5 := by rw [← hW5]; exact hb4.alloc (by omega) _
  rw [← hX]
  have hy5X : X + 1 ≤ y5.heap.size := bXy5.lt
  clear hW5 r4 q4 bO4 hX hb4
  have zy5 : y5.heap.size = y5.heap.size := rfl
  clear zy5
  have oEy5 : Hid ((y5.alloc (.cells #[] 45)).ownsRow (X + 1) 45 8 (.slice (some ⟨y5.heap.size, 0, none⟩) 0 0) 0 []) := Lib.hid (own_empty (cs := #[]) (heap_alloc_new y5 _) hy5X (by unfold maxLen; omega) rfl)
  have hby5a : Below M W0 (y5.alloc (.cells #[] 45)) := hby5.alloc (HW.out _ hby5) _
  have HBy5a := Lib.hid hby5a
  have ry5 := (HRA.out _ hby5).1
  have qy5 := (HRA.out _ hby5).2
  unfold Row at ry5 qy5
  have hNy5 : N < y5.heap.size := by omega
  go_wp2_with (at_builtin; refine wpList_append_src _ rfl (.tmp 61) (.tmp 64) 23 rfl (X + 1) 45 i0 (.agg #[.int .i64 0, .int .i64 0, .int .i64 0, .int .i64 0, .int .i64 0, .int .i64 0, .int .i64 0, .int .i64 0]) 8 64 Try.underlying23 HI.out.1 HI.out.2.1 HI.out.2.2.1 HI.out.2.2.2 rfl (by decide) (.slice (some ⟨y5.heap.size, 0, none⟩) 0 0) 0 [] rfl oEy5.out A a.al.length ca (flatA a.al) rfl (flat_len (f := Att.row) row_len_A _) nA1.out (S1.out _ HBy5a.out) (flatA_one _) ?e2 ?e3 ?e4 ?_)
  case e2 => unfold maxLen; omega
  case e3 => omega
  case e4 => simp; omega
  intro v6 y6 oy6 gy6
  have hby6 : Below M W0 y6 := HBy5a.out.grown gy6 (by have := HW.out _ HBy5a.out; exact this) (by intro g hg; simp [Value.ownBlock] at hg; omega)
  have bXy6 := (bXy5.alloc _).grown_ gy6 (by simp [Value.ownBlock]; omega)
  have bOy6 := (bOy5.alloc _).grown_ gy6 (by simp [Value.ownBlock]; omega)
  have zy6 : X + 1 ≤ y6.heap.size := bXy6.lt
  have Vy6 : Hid (∀ g, v6.ownBlock = some g → X + 1 ≤ g ∧ g < y6.heap.size) := Lib.hid oy6.lt
  have Oy6 : Hid (y6.ownsRow (X + 1) 45 8 v6 a.al.length (flatA a.al)) := Lib.hid (by simpa using oy6)
  have HBy6 := Lib.hid hby6
  clear oy6 gy6 bXy5 bOy5 ry5 qy5 oEy5
  go_wp2_with (at_builtin; refine wpList_append_src _ rfl (.tmp 65) (.tmp 66) 23 rfl (X + 1) 45 i0 (.agg #[.int .i64 0, .int .i64 0, .int .i64 0, .int .i64 0, .int .i64 0, .int .i64 0, .int .i64 0, .int .i64 0]) 8 64 Try.underlying23 HI.out.1 HI.out.2.1 HI.out.2.2.1 HI.out.2.2.2 rfl (by decide) v6 a.al.length (flatA a.al) rfl Oy6.out A' b.al.length ca' (flatA b.al) rfl (flat_len (f := Att.row) row_len_A _) nA2.out (S2.out _ HBy6.out) (flatA_one _) ?e2 ?e3 ?e4 ?_)
  case e2 => unfold maxLen; omega
  case e3 => omega
  case e4 => exact zy6
  intro v7 y7 oy7 gy7
  have hby7 : Below M W0 y7 := HBy6.out.grown gy7 (HW.out _ HBy6.out) (by intro g hg; have := Vy6.out g hg; omega)
  have bXy7 := bXy6.grown_ gy7 (by intro e; have := Vy6.out _ e.symm; omega)
  have bOy7 := bOy6.grown_ gy7 (by intro e; have := Vy6.out _ e.symm; omega)
  have owny7 : y7.ownsRow (X + 1) 45 8 v7 (a.al.length + b.al.length) (flatA (a.al ++ b.al)) := by simpa [flatA] using oy7
  obtain ⟨P7, k7, hv7⟩ := own_form owny7
  have cX7 := bXy7.row
  have fX7 := bXy7.frozen
  unfold Row at cX7
  have far7 : ∀ g t cs, g ≠ X → Blk y7 g t cs → Blk (y7.setCell ⟨X, 1, none⟩ v7) g t cs := fun g t cs h1 h => h.far (p := ⟨X, 1, none⟩) h1 _
  have bX8' := bXy7.set_ 1 v7
  have bO8' := far7 _ _ _ (by omega) bOy7
  have K8' := own_kept owny7 fun g cs hg h => far7 g _ cs (by have := (owny7.lt g hg).1; omega) h
  have hb8' : Below M W0 (y7.setCell ⟨X, 1, none⟩ v7) := hby7.setCell (p := ⟨X, 1, none⟩) z4 _
  have ZZ := Lib.hid (And.intro bX8' (And.intro bO8' (And.intro K8' hb8')))
  clear bX8' bO8' K8' hb8' far7 owny7 bXy7 bOy7 oy7 gy7 hby7 Oy6 bXy6 bOy6
  subst hv7
  go_upto_region 8 with fail
  generalize hW8 : World.setCell _ _ _ = y8 at ZZ ⊢
  obtain ⟨bXy8, bOy8, Ky8', hby8⟩ := ZZ.out
  simp only [List.set_cons_zero, List.set_cons_succ] at bXy8
  have Ky8 := Lib.hid Ky8'
  have hy8X : X + 1 ≤ y8.heap.size := bXy8.lt
  clear ZZ hW8 cX7 fX7 Ky8'
  have zy8 : y8.heap.size = y8.heap.size := rfl
  clear zy8
  have oEy8 : Hid ((y8.alloc (.cells #[] 62)).ownsRow (X + 1) 62 3 (.slice (some ⟨y8.heap.size, 0, none⟩) 0 0) 0 []) := Lib.hid (own_empty (cs := #[]) (heap_alloc_new y8 _) hy8X (by unfold maxLen; omega) rfl)
  have hby8a : Below M W0 (y8.alloc (.cells #[] 62)) := hby8.alloc (HW.out _ hby8) _
  have HBy8a := Lib.hid hby8a
  have ry8 := (HRA.out _ hby8).1
  have qy8 := (HRA.out _ hby8).2
  unfold Row at ry8 qy8
  have hNy8 : N < y8.heap.size := by omega
  go_wp2_with (at_builtin; refine wpList_append_src _ rfl (.tmp 70) (.tmp 73) 24 rfl (X + 1) 62 j0 (.agg #[.int .i64 0, .int .i64 0, .int .i64 0]) 3 24 Try.underlying24 HJ.out.1 HJ.out.2.1 HJ.out.2.2.1 HJ.out.2.2.2 rfl (by decide) (.slice (some ⟨y8.heap.size, 0, none⟩) 0 0) 0 [] rfl oEy8.out D a.dl.length cd (flatD a.dl) rfl (flat_len (f := Dlv.row) row_len_D _) nD1.out (S3.out _ HBy8a.out) (flatD_one _) ?e2 ?e3 ?e4 ?_)
  case e2 => unfold maxLen; omega
  case e3 => omega
  case e4 => simp; omega
  intro v9 y9 oy9 gy9
  have hby9 : Below M W0 y9 := HBy8a.out.grown gy9 (by have := HW.out _ HBy8a.out; exact this) (by intro g hg; simp [Value.ownBlock] at hg; omega)
  have bXy9 := (bXy8.alloc _).grown_ gy9 (by simp [Value.ownBlock]; omega)
  have bOy9 := (bOy8.alloc _).grown_ gy9 (by simp [Value.ownBlock]; omega)
  have zy9 : X + 1 ≤ y9.heap.size := bXy9.lt
  have Vy9 : Hid (∀ g, v9.ownBlock = some g → X + 1 ≤ g ∧ g < y9.heap.size) := Lib.hid oy9.lt
  have Ky9 := Lib.hid (own_kept (w' := y9) Ky8.out fun g cs hg h => (h.alloc _).grown_ gy9 (by simp [Value.ownBlock]; have := (Ky8.out.lt g hg).2; omega))
  have Oy9 : Hid (y9.ownsRow (X + 1) 62 3 v9 a.dl.length (flatD a.dl)) := Lib.hid (by simpa using oy9)
  have HBy9 := Lib.hid hby9
  clear oy9 gy9 bXy8 bOy8 ry8 qy8 oEy8
  go_wp2_with (at_builtin; refine wpList_append_src _ rfl (.tmp 74) (.tmp 75) 24 rfl (X + 1) 62 j0 (.agg #[.int .i64 0, .int .i64 0, .int .i64 0]) 3 24 Try.underlying24 HJ.out.1 HJ.out.2.1 HJ.out.2.2.1 HJ.out.2.2.2 rfl (by decide) v9 a.dl.length (flatD a.dl) rfl Oy9.out D' b.dl.length cd' (flatD b.dl) rfl (flat_len (f := Dlv.row) row_len_D _) nD2.out (S4.out _ HBy9.out) (flatD_one _) ?e2 ?e3 ?e4 ?_)
  case e2 => unfold maxLen; omega
  case e3 => omega
  case e4 => exact zy9
  intro v10 y10 oy10 gy10
  have hby10 : Below M W0 y10 := HBy9.out.grown gy10 (HW.out _ HBy9.out) (by intro g hg; have := Vy9.out g hg; omega)
  have bXy10 := bXy9.grown_ gy10 (by intro e; have := Vy9.out _ e.symm; omega)
  have bOy10 := bOy9.grown_ gy10 (by intro e; have := Vy9.out _ e.symm; omega)
  have owny10 : y10.ownsRow (X + 1) 62 3 v10 (a.dl.length + b.dl.length) (flatD (a.dl ++ b.dl)) := by simpa [flatD] using oy10
  have Ky10 := Lib.hid (own_kept (w' := y10) Ky9.out fun g cs hg h => h.grown_ gy10 (by intro e; have := own_type Oy9.out e h; revert this; decide))
  obtain ⟨P10, k10, hv10⟩ := own_form owny10
  have cX10 := bXy10.row
  have fX10 := bXy10.frozen
  have cO10 := bOy10.row
  have fO10 := bOy10.frozen
  unfold Row at cX10 cO10
  have hne : ¬ X = N + 1 + 1 := by omega
  have hne' : ¬ N + 1 + 1 = X := by omega
  subst hv10
  have Owny10 := Lib.hid owny10
  have far11 : ∀ g t cs, g ≠ X → g ≠ N + 1 + 1 → Blk y10 g t cs → Blk ((((y10.setCell ⟨X, 2, none⟩ (.slice P10 (a.dl.length + b.dl.length) k10)).setCell ⟨N + 1 + 1, 0, none⟩ (.int .i64 b.slots)).setCell ⟨N + 1 + 1, 1, none⟩ (.slice P7 (a.al.length + b.al.length) k7)).setCell ⟨N + 1 + 1, 2, none⟩ (.slice P10 (a.dl.length + b.dl.length) k10)) g t cs := fun g t cs h1 h2 h => (((h.far (p := ⟨X, 2, none⟩) h1 _).far (p := ⟨N + 1 + 1, 0, none⟩) h2 _).far (p := ⟨N + 1 + 1, 1, none⟩) h2 _).far (p := ⟨N + 1 + 1, 2, none⟩) h2 _
  have L1 := Lib.hid (own_kept Ky10.out fun g cs hg h => far11 g _ cs (by have := (Ky10.out.lt g hg).1; omega) (by have := (Ky10.out.lt g hg).1; omega) h)
  have L2 := Lib.hid (own_kept Owny10.out fun g cs hg h => far11 g _ cs (by have := (Owny10.out.lt g hg).1; omega) (by have := (Owny10.out.lt g hg).1; omega) h)
  have C7 := Lib.hid ((((bOy10.far (p := ⟨X, 2, none⟩) hne' (.slice P10 (a.dl.length + b.dl.length) k10)).set_ 0 (.int .i64 b.slots)).set_ 1 (.slice P7 (a.al.length + b.al.length) k7)).set_ 2 (.slice P10 (a.dl.length + b.dl.length) k10)).row
  have HF := Lib.hid (((((hb0.trans (hby10.mono (by omega))).setCell (p := ⟨X, 2, none⟩) (by dsimp only; omega) (.slice P10 (a.dl.length + b.dl.length) k10)).setCell (p := ⟨N + 1 + 1, 0, none⟩) (by dsimp only; omega) (.int .i64 b.slots)).setCell (p := ⟨N + 1 + 1, 1, none⟩) (by dsimp only; omega) (.slice P7 (a.al.length + b.al.length) k7)).setCell (p := ⟨N + 1 + 1, 2, none⟩) (by dsimp only; omega) (.slice P10 (a.dl.length + b.dl.length) k10))
  clear far11 owny10 oy10 gy10
  go_wp2_with fail
  have c7 := C7.out
  unfold Row at c7
  simp only [List.set_cons_zero, List.set_cons_succ] at c7
  refine bodyPost_ret (v := .tuple #[.agg #[.int .i64 b.slots, .slice P7 (a.al.length + b.al.length) k7, .slice P10 (a.dl.length + b.dl.length) k10], .int .i64 0]) (by simp [results, Try.results33, go_sem, c7]) rfl ?_
  rw [HR.out.1, HR.out.2]
  refine ⟨by rw [← HN.out]; exact HF.out, P7, P10, k7, k10, by simp, own_A (l := a.al ++ b.al) (base := X + 1) (n := a.al.length + b.al.length) (c := k7) ?_, own_D (l := a.dl ++ b.dl) (base := X + 1) (n := a.dl.length + b.dl.length) (c := k10) ?_⟩
  · have := L1.out
    simpa using this
  · have := L2.out
    simpa using this

end Go.Proofs.Ytllakkepphpfmaa


