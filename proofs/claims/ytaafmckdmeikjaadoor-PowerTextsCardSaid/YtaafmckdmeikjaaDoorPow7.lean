/- Walks: Format of 1000; awake. -/
import Derived.Test.YtaafmckdmeikjaaDoorPow5
namespace Go.Proofs.YtaafmckdmeikjaaDoor
open Go.RowKit

set_option maxRecDepth 100000 in
theorem small30 (w : World) : Calls Tryd.prog 47 #[.int .i64 30] w fun e w' => e = .returned (.string ⟨#[51, 48]⟩) ∧ w = w' := by
  go_enter Tryd.func47, Tryd.ntmps47
  go_wp2_with fail
  go_ret
  exact ⟨rfl, rfl⟩
theorem fmt30 (w : World) : Calls Tryd.prog 36 #[.int .i64 30, .int .i64 10] w fun e w' => e = .returned (.string ⟨#[51, 48]⟩) ∧ w = w' := by
  go_enter Tryd.func36, Tryd.ntmps36
  go_wp2_with (go_at_call 47; (with_reducible refine (small30 _).mono ?_); rintro e w' ⟨rfl, rfl⟩)
  go_ret
  exact ⟨rfl, rfl⟩
theorem itoa30 (w : World) : Calls Tryd.prog 25 #[.int .i64 30] w fun e w' => e = .returned (.string ⟨#[51, 48]⟩) ∧ w = w' := by
  go_enter Tryd.func25, Tryd.ntmps25
  go_wp2_with (go_at_call 36; (with_reducible refine (fmt30 _).mono ?_); rintro e w' ⟨rfl, rfl⟩)
  go_ret
  exact ⟨rfl, rfl⟩
theorem sitoa30 (w : World) : Calls Tryd.prog 13 #[.int .i64 30] w fun e w' => e = .returned (.string ⟨#[51, 48]⟩) ∧ w = w' := by
  go_enter Tryd.func13, Tryd.ntmps13
  go_wp2_with (go_at_call 25; (with_reducible refine (itoa30 _).mono ?_); rintro e w' ⟨rfl, rfl⟩)
  go_ret
  exact ⟨rfl, rfl⟩
theorem decR1000 : decR 1000 = (30, 0) := by decide +kernel
theorem decR24 : decR 24 = (13, 0) := by decide +kernel
theorem levR13 : levR 13 = (19, 0) := by decide +kernel
theorem marR0 : marR 100 2000 10 = (40, 0) := by decide +kernel
theorem lstR0 : lstR 2000 10 40 = (100, 0) := by decide +kernel
theorem format1000 (w : World) : Calls Tryd.prog 5 #[.int .i64 1000] w fun e w' => e = .returned (.tuple #[.string ⟨#[51, 48, 32, 100, 66]⟩, .int .i64 0]) ∧ Below w.heap.size w w' := by
  have hd := fun W => Decibels_any 1000 W
  rw [decR1000] at hd
  dsimp only at hd
  have HD := Lib.hid hd
  clear hd
  go_enter Tryd.func5, Tryd.ntmps5
  go_wp2_with (first | (go_at_call 10; (with_reducible refine (HD.out _).mono ?_); rintro e w' ⟨rfl, hb⟩) | (go_at_call 13; (with_reducible refine (sitoa30 _).mono ?_); rintro e w' ⟨rfl, rfl⟩))
  go_ret2
  exact ⟨rfl, hb⟩
set_option maxRecDepth 100000 in
theorem awake_any (w : World) : Calls Tryd.prog 4 #[] w fun e w' => e = .returned (.bool true) ∧ Below w.heap.size w w' := by
  have hd := fun W => Decibels_any 24 W
  rw [decR24] at hd
  have hl := fun W => Level_any 13 W
  rw [levR13] at hl
  have hm := fun W => Margin_any 100 2000 10 W
  rw [marR0] at hm
  have ht := fun W => Least_any 2000 10 40 W
  rw [lstR0] at ht
  dsimp only at hd hl hm ht
  have HD := Lib.hid hd
  have HL := Lib.hid hl
  have HM := Lib.hid hm
  have HT := Lib.hid ht
  clear hd hl hm ht
  go_enter Tryd.func4, Tryd.ntmps4
  go_wp2_with (first | (go_at_call 9; (with_reducible refine (HL.out _).mono ?_); rintro e w' ⟨rfl, rfl⟩) | (go_at_call 10; (with_reducible refine (HD.out _).mono ?_); rintro e w' ⟨rfl, hb⟩) | (go_at_call 11; (with_reducible refine (HM.out _).mono ?_); rintro e w' ⟨rfl, rfl⟩) | (go_at_call 12; (with_reducible refine (HT.out _).mono ?_); rintro e w' ⟨rfl, rfl⟩) | (go_at_call 5; (with_reducible refine (format1000 _).mono ?_); rintro e w' ⟨rfl, hb2⟩))
  go_ret
  exact ⟨rfl, hb.trans (hb2.mono hb.size)⟩

end Go.Proofs.YtaafmckdmeikjaaDoor
