/- Walk: Equal of package slices, at attempts. -/
import Derived.Test.YtllakkepphpfmaaEqS
import Derived.Test.YtllakkepphpfmaaCut
namespace Go.Proofs.Ytllakkepphpfmaa
open Go.RowKit
open Rc

theorem eq_dropA {xs ys : List Att} {k : Nat} {x y : Att} (hx : xs[k]? = some x) (hy : ys[k]? = some y) : decide (xs.drop k = ys.drop k) = (decide (x = y) && decide (xs.drop (k + 1) = ys.drop (k + 1))) := by
  rw [drop_of_get hx, drop_of_get hy, Bool.eq_iff_iff]
  simp

set_option maxRecDepth 100000 in
set_option maxHeartbeats 2000000 in
theorem equalA_any (xs ys : List Att) (A B : Option Addr) (ca cb : Nat) (w : World) (hA : LiesA w w.heap.size A xs) (hB : LiesA w w.heap.size B ys) (hl : xs.length ≤ 1000000) (hl' : ys.length ≤ 1000000) :
    Calls Try.prog 24 #[.slice A xs.length ca, .slice B ys.length cb] w fun e w' => e = .returned (.bool (decide (xs = ys))) ∧ Below w.heap.size w w' := by
  obtain ⟨n, hn⟩ : ∃ n, n = xs.length := ⟨_, rfl⟩
  obtain ⟨m, hm⟩ : ∃ n, n = ys.length := ⟨_, rfl⟩
  rw [← hn, ← hm]
  rw [← hn] at hl
  rw [← hm] at hl'
  obtain ⟨T, hT⟩ : ∃ T, T = decide (xs = ys) := ⟨_, rfl⟩
  rw [← hT]
  have HT := Lib.hid hT
  have HN := Lib.hid hn
  have HM := Lib.hid hm
  clear hT hn hm
  by_cases hnm : n = m
  · subst hnm
    go_enter Try.func24, Try.ntmps24
    go_wp2_with fail
    go_loopw [13] (fun i wr => ∃ (k : Nat), k ≤ n ∧ i = .int .i64 k ∧ Below w.heap.size w wr ∧ Hid (∀ p : Addr, wr.cell? p = w.cell? p) ∧ Hid (T = decide (xs.drop k = ys.drop k))) (fun i _ => n - (intOf i).toNat)
    case atStart => exact ⟨0, Nat.zero_le _, rfl, Below.refl _ _, Lib.hid fun _ => rfl, Lib.hid (by rw [HT.out]; simp)⟩
    case round =>
      obtain ⟨k, hk, rfl, hb, hw, hst⟩ := hrel
      by_cases hlt : k < n
      · obtain ⟨x, hx⟩ := get_of_lt (l := xs) (k := k) (by rw [← HN.out]; exact hlt)
        obtain ⟨y, hy⟩ := get_of_lt (l := ys) (k := k) (by rw [← HM.out]; exact hlt)
        have hst' : Hid (T = (decide (x = y) && decide (xs.drop (k + 1) = ys.drop (k + 1)))) := Lib.hid (by rw [hst.out]; exact eq_dropA hx hy)
        obtain ⟨b, off, rfl, _, hcs⟩ := hA.at_ hx
        obtain ⟨b', off', rfl, _, hcs'⟩ := hB.at_ hy
        obtain ⟨x0, x1, x2, x3, x4, x5, x6, x7⟩ := hcs k x hx
        obtain ⟨y0, y1, y2, y3, y4, y5, y6, y7⟩ := hcs' k y hy
        rw [← hw.out] at x0 x1 x2 x3 x4 x5 x6 x7 y0 y1 y2 y3 y4 y5 y6 y7
        clear hx hy hst hcs hcs'
        go_upto_region 6 with fail
        go_cut [24] (fun s24 W => s24 = .bool (!decide (x = y)) ∧ Below w.heap.size w W ∧ Hid (∀ p : Addr, W.cell? p = w.cell? p))
        case first =>
          refine wp_region_quiet_lit (by kernel_rfl) (by kernel_rfl) ?_
          repeat (go_big_quiet_step (fail))
          go_big_quiet_want
          refine quiet_neq _ _ _ _ _ _ _ rfl rfl rfl (by kernel_rfl) (Try.eqAtt x y) ?_
          go_big_quiet_on
          refine wpQuiet_nil ?_
          intro _ hw'
          obtain ⟨nq, hw''⟩ := hw'
          subst hw''
          go_wp2_with fail
          go_meet
          exact ⟨rfl, below_drewN hb _, Lib.hid fun p => hw.out p⟩
        case rest =>
          obtain ⟨rfl, hb2, hw2⟩ := hcut
          cases hxy : decide (x = y) with
          | false =>
            have hf := Lib.hid (show T = false by rw [hst'.out, hxy]; rfl)
            go_wp2_with fail
            go_ret
            exact ⟨ret_bool (by rw [hf.out]), hb2⟩
          | true =>
            have hf := Lib.hid (show T = decide (xs.drop (k + 1) = ys.drop (k + 1)) by rw [hst'.out, hxy]; rfl)
            go_wp2_with fail
            go_roundw
            case rel => exact ⟨k + 1, by omega, by go_num, hb2, hw2, hf⟩
            case measure => simp [intOf]; omega
      · have hf : Hid (T = true) := Lib.hid (by rw [hst.out, List.drop_of_length_le (by rw [← HN.out]; omega), List.drop_of_length_le (by rw [← HM.out]; omega)]; simp)
        go_wp2_with fail
        go_ret
        exact ⟨ret_bool (by rw [hf.out]), hb⟩
  · have hf : Hid (T = false) := Lib.hid (by
      rw [HT.out, decide_eq_false_iff_not]
      intro h
      apply hnm
      rw [HN.out, HM.out, h])
    have hnm' : ¬ (n : Int) = (m : Int) := by omega
    go_enter Try.func24, Try.ntmps24
    go_wp2_with fail
    go_ret
    exact ⟨ret_bool (by rw [hf.out]), Below.refl _ _⟩

end Go.Proofs.Ytllakkepphpfmaa
