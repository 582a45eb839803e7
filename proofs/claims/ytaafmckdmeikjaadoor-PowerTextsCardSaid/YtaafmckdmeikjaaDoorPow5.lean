/- Walks of Decibels: the closure, sort.Search. -/
import Derived.Test.YtaafmckdmeikjaaDoorPow4
namespace Go.Proofs.YtaafmckdmeikjaaDoor
open Go.RowKit

theorem below_drewN' {B : Nat} {a w : World} (h : Below B a w) (n : Nat) : Below B a (w.drewN n) := ⟨h.os, h.tape, h.output, h.size, h.block⟩

/-- The closure of Decibels: is the level above p? -/
theorem dcl_any (d : Nat) (hd : d ≤ 109) (g : Nat) (p : Int) (w : World) (hc : w.cell? ⟨g, 0, none⟩ = some (.int .i64 p)) (hg : g < w.heap.size) (b : Bool) (hb : decide (p < lev d) = b) :
    Calls Tryd.prog 23 #[.int .i64 d, .pointer (some ⟨g, 0, none⟩)] w fun e w' => e = .returned (.bool b) ∧ Below w.heap.size w w' := by
  have Hb := Lib.hid hb
  clear hb
  go_enter Tryd.func23, Tryd.ntmps23
  go_wp2_with fail
  go_quiet ((go_at_call 20; exact Calls.quiet_of_same ((level_any d hd _).mono (fun _ _ h => ⟨h.1, h.2.symm⟩))))
  go_wp2_with fail
  go_ret
  exact ⟨ret_bool Hb.out, below_drewN' (Below.refl _ _) _⟩

set_option maxHeartbeats 1000000 in
theorem search_any (g : Nat) (p : Int) (hp : 1 ≤ p) (w : World) (hc : w.cell? ⟨g, 0, none⟩ = some (.int .i64 p)) (hg : g < w.heap.size) :
    Calls Tryd.prog 22 #[.int .i64 109, .func (.func 23) #[] #[.pointer (some ⟨g, 0, none⟩)]] w fun e w' => e = .returned (.int .i64 ((dec p : Int) + 1)) ∧ Below w.heap.size w w' := by
  have HC : Hid (∀ W, Below w.heap.size w W → W.cell? ⟨g, 0, none⟩ = some (.int .i64 p) ∧ g < W.heap.size) := Lib.hid fun W h => ⟨(h.cell (p := ⟨g, 0, none⟩) hg).trans hc, Nat.lt_of_lt_of_le hg h.size⟩
  obtain ⟨T, hT⟩ : ∃ T, T = dec p := ⟨_, rfl⟩
  rw [← hT]
  have HT := Lib.hid hT
  clear hT hc
  go_enter Tryd.func22, Tryd.ntmps22
  go_wp2_with fail
  go_loopw [5, 6] (fun i j wr => ∃ a b : Nat, a ≤ b ∧ b ≤ 109 ∧ i = .int .i64 a ∧ j = .int .i64 b ∧ Below w.heap.size w wr ∧ Hid ((∀ m, m < a → lev m ≤ p) ∧ (b = 109 ∨ p < lev b))) (fun i j _ => (intOf j).toNat - (intOf i).toNat)
  case atStart => exact ⟨0, 109, by omega, by omega, rfl, rfl, Below.refl _ _, Lib.hid ⟨fun m h => by omega, Or.inl rfl⟩⟩
  case round =>
    obtain ⟨a, b, hab, hb9, rfl, rfl, hb, HI⟩ := hrel
    by_cases hlt : a < b
    · have hlt' : (a : Int) < b := by omega
      obtain ⟨h, hh⟩ : ∃ h, h = (a + b) / 2 := ⟨_, rfl⟩
      have h1 : a ≤ h := by omega
      have h2 : h < b := by omega
      go_wp2_with fail
      have hcast : ((a : Int) + b) / 2 = (h : Int) := by omega
      rw [hcast]
      clear hcast hh
      by_cases hle : p < lev h
      · refine (dcl_any h (by omega) g p wr (HC.out _ hb).1 (HC.out _ hb).2 true (decide_eq_true hle)).mono ?_
        rintro e w2 ⟨rfl, hb2⟩
        have hb2' : Below w.heap.size w w2 := hb.trans (hb2.mono hb.size)
        clear hb2
        go_wp2_with fail
        go_roundw
        case rel => exact ⟨a, h, by omega, by omega, rfl, rfl, hb2', Lib.hid ⟨HI.out.1, Or.inr hle⟩⟩
        case measure => simp [intOf]; omega
      · refine (dcl_any h (by omega) g p wr (HC.out _ hb).1 (HC.out _ hb).2 false (decide_eq_false hle)).mono ?_
        rintro e w2 ⟨rfl, hb2⟩
        have hb2' : Below w.heap.size w w2 := hb.trans (hb2.mono hb.size)
        clear hb2
        go_wp2_with fail
        go_roundw
        case rel => exact ⟨h + 1, b, by omega, by omega, by go_num, rfl, hb2', Lib.hid ⟨fun m hm => Int.le_trans (lev_mono (a := m) (b := h) (by omega) (by omega)) (by omega), HI.out.2⟩⟩
        case measure => simp [intOf]; omega
    · obtain rfl : a = b := by omega
      obtain ⟨s1, s2⟩ := search_dec hp hb9 HI.out.1 HI.out.2
      rw [← HT.out] at s2
      have HE : Hid ((a : Int) = T + 1) := Lib.hid (by omega)
      clear s2
      go_wp2_with fail
      go_ret
      exact ⟨ret_int HE.out, hb⟩

theorem Decibels_any (p : Int) (w : World) : Calls Tryd.prog 10 #[.int .i64 p] w fun e w' => e = .returned (.tuple #[.int .i64 (decR p).1, .int .i64 (decR p).2]) ∧ Below w.heap.size w w' := by
  rcases hb : isP p with _ | _
  · rw [decR_no (by have := isP_f hb; omega)]
    dsimp only
    go_enter Tryd.func10, Tryd.ntmps10
    go_wp2_with (go_at_call 21; (with_reducible refine (pow_is _ _ hb _).mono ?_); rintro e w' ⟨rfl, rfl⟩)
    go_ret2
    exact ⟨rfl, (Below.refl _ _).alloc (Nat.le_refl _) _⟩
  obtain ⟨p0, p1⟩ := isP_t hb
  by_cases h0 : p = 0
  · subst h0
    rw [decR_no (by omega)]
    dsimp only
    go_enter Tryd.func10, Tryd.ntmps10
    go_wp2_with (go_at_call 21; (with_reducible refine (pow_is _ _ hb _).mono ?_); rintro e w' ⟨rfl, rfl⟩)
    go_ret2
    exact ⟨rfl, (Below.refl _ _).alloc (Nat.le_refl _) _⟩
  rw [decR_ok (by omega)]
  dsimp only
  have h1 : (p == 0) = false := by simpa using h0
  have h2 : 1 ≤ p := by omega
  obtain ⟨d1, d2, d3⟩ := dec_spec h2
  clear d2 d3
  generalize hD : dec p = D at d1 ⊢
  have HD := Lib.hid hD
  clear hD
  have hs := search_any w.heap.size p h2 (w.alloc (.cells #[.int .i64 p] 3)) (by simp) (by simp)
  rw [HD.out] at hs
  go_enter Tryd.func10, Tryd.ntmps10
  go_wp2_with (first | (go_at_call 21; (with_reducible refine (pow_is _ _ hb _).mono ?_); rintro e w' ⟨rfl, rfl⟩) | (go_at_call 22; (with_reducible refine hs.mono ?_); rintro e w' ⟨rfl, hb2⟩))
  go_ret2
  exact ⟨ret_pair (by omega), ((Below.refl _ _).alloc (Nat.le_refl _) _).trans (hb2.mono (by simp))⟩
end Go.Proofs.YtaafmckdmeikjaaDoor
