/- Walks: the small functions of flow and of its reference. -/
import Derived.Test.YtepamedbbbfjkaaProg
import Derived.Test.YtepamedbbbfjkaaNodP
import Derived.Test.YtepamedbbbfjkaaOwn
import Derived.Test.YtepamedbbbfjkaaMixR
import Derived.StillTailTactics
import Derived.Deep.RegionHeld3
import Derived.Deep.DeepCutAuto
namespace Go.Proofs.Ytepamedbbbfjkaa
open Go.RowKit
open Nd

def Nd.Fl.row (f : Fl) : List Value := [.int .i64 f.id, .int .i64 f.fr, .int .i64 f.tn, .int .i64 f.pe, .int .i64 f.ph, .int .i64 f.dl]

theorem fault_eq (f : Fl) (R : Int) (h : R = if (0 ≤ f.id ∧ f.id ≤ 255) ∧ (0 ≤ f.fr ∧ f.fr ≤ 31) ∧ (0 ≤ f.tn ∧ f.tn ≤ 31) ∧ (1 ≤ f.pe ∧ f.pe ≤ 512) ∧ (0 ≤ f.ph ∧ f.ph ≤ f.pe - 1) ∧ (1 ≤ f.dl ∧ f.dl ≤ f.pe) then (if f.fr = f.tn then 1 else 0) else 2) : R = fault f := by
  rw [h]
  unfold fault
  congr 1
  simp [boundsB, inB, and_assoc]

theorem fcheck1_any (n : Int) (g : Nat) (w : World) (hc : w.cell? ⟨g, 0, none⟩ = some (.int .i64 32)) :
    Calls Try.prog 74 #[.int .i64 n, .pointer (some ⟨g, 0, none⟩)] w fun e w' => e = .returned (.bool (decide (0 ≤ n) && decide (n < 32))) ∧ w = w' := by
  go_enter Try.func74, Try.ntmps74
  go_wp2
  all_goals
    go_ret
    exact ⟨ret_bool (by first | (simp [*]; done) | (simp [*]; omega)), rfl⟩

set_option maxHeartbeats 1000000 in
theorem fcheck_any (f : Fl) (w : World) :
    Calls Try.prog 66 #[.int .i64 32, .agg #[.int .i64 f.id, .int .i64 f.fr, .int .i64 f.tn, .int .i64 f.pe, .int .i64 f.ph, .int .i64 f.dl]] w fun e w' => e = .returned (.int .i64 (fault f)) ∧ Below w.heap.size w w' := by
  obtain ⟨T, hT⟩ : ∃ T, T = fault f := ⟨_, rfl⟩
  rw [← hT]
  have HT := Lib.hid (fun R h => hT.trans (fault_eq f R h).symm)
  clear hT
  obtain ⟨id, fr, tn, pe, ph, dl⟩ := f
  dsimp only at HT
  go_enter Try.func66, Try.ntmps66
  go_wp2_with (go_at_call 74; (with_reducible refine (fcheck1_any _ _ _ (by simp)).mono ?_); rintro e w' ⟨rfl, rfl⟩)
  all_goals
    go_ret
    refine ⟨ret_int (HT.out _ ?_).symm, by repeat (first | exact Below.refl _ _ | refine Below.alloc ?_ (by simp) _ )⟩
    try simp only [decide_eq_true_eq, Bool.not_eq_true', Bool.not_eq_false', decide_eq_false_iff_not, beq_iff_eq, beq_eq_false_iff_ne, ne_eq] at *
    first
      | (rw [if_neg (by omega)]; done)
      | (rw [if_pos (by omega), if_pos (by omega)]; done)
      | (rw [if_pos (by omega), if_neg (by omega)]; done)

theorem alone_any (f : Fl) (w : World) :
    Calls Try.prog 44 #[.agg #[.int .i64 f.id, .int .i64 f.fr, .int .i64 f.tn, .int .i64 f.pe, .int .i64 f.ph, .int .i64 f.dl]] w fun e w' => e = .returned (.int .i64 (fault f)) ∧ Below w.heap.size w w' := by
  go_enter Try.func44, Try.ntmps44
  go_wp2_with (go_at_call 66; (with_reducible refine (fcheck_any _ _).mono ?_); rintro e w' ⟨rfl, hb⟩)
  go_ret
  exact ⟨rfl, ((Below.refl _ _).alloc (Nat.le_refl _) _).trans (hb.mono (by simp))⟩

theorem in_any (n lo hi : Int) (w : World) :
    Calls Try.prog 65 #[.int .i64 n, .int .i64 lo, .int .i64 hi] w fun e w' => e = .returned (.bool (inB n lo hi)) ∧ w = w' := by
  go_enter Try.func65, Try.ntmps65
  go_wp2
  all_goals
    go_ret
    exact ⟨ret_bool (by first | (simp [inB, *]; done) | (simp [inB, *]; omega)), rfl⟩

end Go.Proofs.Ytepamedbbbfjkaa
