/- Walks of the reference: Decibels. -/
import Derived.Test.YtaafmckdmeikjaaDoorPow3
import Derived.Test.YtaafmckdmeikjaaDoorPow5
namespace Go.Proofs.YtaafmckdmeikjaaDoor
open Go.RowKit

set_option maxHeartbeats 1000000 in
theorem rDecibels_any (p : Int) (w : World) : Calls Tryd.prog 14 #[.int .i64 p] w fun e w' => e = .returned (.tuple #[.int .i64 (decR p).1, .int .i64 (decR p).2]) ∧ Below w.heap.size w w' := by
  by_cases h0 : 1 ≤ p
  case neg =>
    rw [decR_no (by omega)]
    dsimp only
    have h0' : decide (p < 1) = true := decide_eq_true (by omega)
    go_enter Tryd.func14, Tryd.ntmps14
    go_wp2_with fail
    go_ret2
    exact ⟨rfl, Below.refl _ _⟩
  have h0' : decide (p < 1) = false := decide_eq_false (by omega)
  by_cases h1 : p ≤ 68719476736
  case neg =>
    rw [decR_no (by omega)]
    dsimp only
    have h1' : decide (68719476736 < p) = true := decide_eq_true (by omega)
    go_enter Tryd.func14, Tryd.ntmps14
    go_wp2_with fail
    go_ret2
    exact ⟨rfl, Below.refl _ _⟩
  have h1' : decide (68719476736 < p) = false := decide_eq_false (by omega)
  rw [decR_ok ⟨h0, h1⟩]
  dsimp only
  obtain ⟨T, hT⟩ : ∃ T, T = dec p := ⟨_, rfl⟩
  rw [← hT]
  have HT := Lib.hid hT
  clear hT
  go_enter Tryd.func14, Tryd.ntmps14
  go_wp2_with fail
  go_loopw [4] (fun i wr => ∃ k : Nat, k ≤ 108 ∧ i = .int .i64 k ∧ Below w.heap.size w wr ∧ Hid (lev k ≤ p)) (fun i _ => 108 - (intOf i).toNat)
  case atStart => exact ⟨0, by omega, rfl, Below.refl _ _, Lib.hid (by rw [lev0]; exact h0)⟩
  case round =>
    obtain ⟨k, hk, rfl, hb, HI⟩ := hrel
    by_cases hlt : k < 108
    · have hlt' : (k : Int) < 108 := by omega
      have hl := fun W => rLevel_any ((k + 1 : Nat) : Int) W
      rw [levR_ok (by omega)] at hl
      dsimp only at hl
      have HLL := Lib.hid hl
      clear hl
      obtain ⟨l1, l2⟩ := lev_bound (k + 1) (by omega)
      generalize hX : lev (k + 1) = X at *
      have HX := Lib.hid hX
      clear hX
      go_wp2_with fail
      rw [show (k : Int) + 1 = ((k + 1 : Nat) : Int) by omega]
      refine (HLL.out _).mono ?_
      rintro e w2 ⟨rfl, hb2⟩
      have hb2' : Below w.heap.size w w2 := hb.trans (hb2.mono hb.size)
      clear hb2
      by_cases hgt : p < X
      · have hE : dec p = k := dec_unique (by omega) HI.out (Or.inr (by rw [HX.out]; exact hgt))
        have HE : Hid (T = k) := Lib.hid (HT.out.trans hE)
        clear hE
        go_wp2_with fail
        go_ret2
        exact ⟨ret_pair (by rw [HE.out]), hb2'⟩
      · have hgt' : decide (p < X) = false := decide_eq_false hgt
        go_wp2_with fail
        go_roundw
        case rel => exact ⟨k + 1, by omega, by go_num, hb2', Lib.hid (by rw [HX.out]; omega)⟩
        case measure => simp [intOf]; omega
    · obtain rfl : k = 108 := by omega
      have hE : dec p = 108 := dec_unique (by omega) HI.out (Or.inl rfl)
      have HE : Hid (T = 108) := Lib.hid (HT.out.trans hE)
      clear hE
      go_wp2_with fail
      go_ret2
      exact ⟨ret_pair (by rw [HE.out]), hb⟩

end Go.Proofs.YtaafmckdmeikjaaDoor
