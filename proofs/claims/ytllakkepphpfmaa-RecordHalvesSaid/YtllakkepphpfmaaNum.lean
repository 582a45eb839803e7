/- Walk: number of package record's reader. -/
import Derived.Test.YtllakkepphpfmaaProg
import Derived.Test.YtllakkepphpfmaaFloat
import Derived.Test.YtllakkepphpfmaaNumP
namespace Go.Proofs.Ytllakkepphpfmaa
open Go.RowKit
open Rc

/-- the reader's block -/
def Rdr (w : World) (g : Nat) (t : TypeId) (data : List UInt8) (bad : Bool) : Prop := Blk w g t [.string ⟨data.toArray⟩, .bool bad]

theorem grown_set {w : World} {g i : Nat} {u : Value} : w.grownBy (w.setCell ⟨g, i, none⟩ u) (some g) :=
  ⟨rfl, rfl, rfl, by simp [World.setCell], fun k _ hne => Below.heap_setCell w ⟨g, i, none⟩ u k (fun e => hne (by rw [e]))⟩

set_option maxRecDepth 100000 in
set_option maxHeartbeats 2000000 in
theorem number_any (g : Nat) (data : List UInt8) (bad : Bool) (w : World) (hl : data.length ≤ 1000000) (hr : Rdr w g 67 data bad) :
    Calls Try.prog 60 #[.pointer (some ⟨g, 0, none⟩)] w fun e w' => e = .returned (.int .i64 ((numS 5 data bad).1 : Nat)) ∧ Rdr w' g 67 (numS 5 data bad).2.1 (numS 5 data bad).2.2 ∧ w.grownBy w' (some g) := by
  have c0 := hr.row 0
  have c1 := hr.row 1
  have f0 := hr.frozen 0
  have f1 := hr.frozen 1
  simp only [List.getElem?_cons_zero, List.getElem?_cons_succ] at c0 c1
  cases bad with
  | true =>
    go_enter Try.func60, Try.ntmps60
    go_wp2_with fail
    refine wp_loop_rounds 1 ?_
    rw [rounds_succ]
    go_wp2_with fail
    all_goals
      go_ret
      exact ⟨rfl, hr.set_ 1 _, grown_set⟩
  | false =>
    go_enter Try.func60, Try.ntmps60
    go_wp2_with fail
    go_loop [2, 3, 4] (fun s2 s3 s4 => ∃ (i n : Nat), i ≤ 5 ∧ i ≤ data.length ∧ s4 = .int .i64 i ∧ s3 = .int .i64 n ∧ s2 = .int .i64 0 ∧ Hid (n < 128 ^ i) ∧ Hid (numF 5 0 0 data = numF (5 - i) i n (data.drop i))) (fun _ _ s4 => 5 - (intOf s4).toNat)
    case atStart => exact ⟨0, 0, by omega, by omega, rfl, rfl, rfl, Lib.hid (by simp), Lib.hid rfl⟩
    case round =>
      obtain ⟨i, n, hi5, hil, rfl, rfl, rfl, hn, hst⟩ := hrel
      by_cases hi : i < 5 ∧ i < data.length
      · obtain ⟨h5, hlt⟩ := hi
        obtain ⟨c, hc⟩ := get_of_lt hlt
        have hd := Lib.hid (drop_of_get hc)
        have hcb : (⟨data.toArray⟩ : ByteArray)[i]'(by show i < data.toArray.size; simpa using hlt) = c := (List.getElem?_eq_some_iff.1 hc).2
        have hns := Lib.hid (num_step n i c h5 hn.out)
        have hst' := hst.out
        rw [hd.out, show 5 - i = (4 - i) + 1 by omega] at hst'
        simp only [numF] at hst'
        clear hc
        by_cases h128 : c.toNat < 128
        · rw [if_pos h128] at hst'
          have hfin : Hid (numS 5 data false = (n + c.toNat % 128 * 128 ^ i, data.drop (i + 1), decide (c.toNat = 0) && decide (0 < i))) := Lib.hid (by simp [numS, hst'])
          clear hst' hst
          have hfd := Lib.hid (extract_drop data (i + 1))
          by_cases hc0 : c.toNat = 0
          · have hb0 : ((c.toNat : Int) == 0) = true := by simp [hc0]
            have hfin2 : Hid (numS 5 data false = (n + c.toNat % 128 * 128 ^ i, data.drop (i + 1), decide (0 < i))) := Lib.hid (by rw [hfin.out, hc0]; simp)
            clear hc0 hfin
            go_wp2_with fail
            go_ret
            exact ⟨ret_int (by rw [hfin2.out, ← hns.out]), by rw [hfin2.out]; unfold Rdr; dsimp only; rw [← hfd.out]; exact (hr.set_ 1 _).set_ 0 _, grown_set.trans grown_set⟩
          · have hb0 : ((c.toNat : Int) == 0) = false := by simpa using hc0
            have hfin2 : Hid (numS 5 data false = (n + c.toNat % 128 * 128 ^ i, data.drop (i + 1), false)) := Lib.hid (by rw [hfin.out]; simp [hc0])
            clear hc0 hfin
            go_wp2_with fail
            go_ret
            exact ⟨ret_int (by rw [hfin2.out, ← hns.out]), by rw [hfin2.out]; unfold Rdr; dsimp only; rw [← hfd.out]; exact (hr.set_ 1 _).set_ 0 _, grown_set.trans grown_set⟩
        · rw [if_neg h128] at hst'
          have hst2 : Hid (numF 5 0 0 data = numF (5 - (i + 1)) (i + 1) (n + c.toNat % 128 * 128 ^ i) (data.drop (i + 1))) := Lib.hid (by rw [hst', show 5 - (i + 1) = 4 - i by omega])
          have hnl : Hid (n + c.toNat % 128 * 128 ^ i < 128 ^ (i + 1)) := Lib.hid (by
            have := hn.out
            rw [Nat.pow_succ]
            have h1 : c.toNat % 128 < 128 := Nat.mod_lt _ (by decide)
            have h2 : c.toNat % 128 * 128 ^ i ≤ 127 * 128 ^ i := Nat.mul_le_mul_right _ (by omega)
            omega)
          clear hst' hst
          go_wp2_with fail
          go_round
          case rel => exact ⟨i + 1, n + c.toNat % 128 * 128 ^ i, by omega, by omega, by go_num, by rw [← hns.out], rfl, hnl, hst2⟩
          case measure => simp [intOf]; omega
      · have hnone : numF (5 - i) i n (data.drop i) = none := by
          by_cases h5 : i < 5
          · have : data.drop i = [] := List.drop_of_length_le (by omega)
            rw [this, show 5 - i = (4 - i) + 1 by omega]; rfl
          · rw [show 5 - i = 0 by omega]; rfl
        have hfin : Hid (numS 5 data false = (0, data, true)) := Lib.hid (by simp [numS, hst.out, hnone])
        clear hst hnone
        by_cases h5 : i < 5
        · have hge : ¬ i < data.length := by omega
          go_wp2_with fail
          go_ret
          exact ⟨ret_int (by rw [hfin.out]; rfl), by rw [hfin.out]; exact hr.set_ 1 _, grown_set⟩
        · go_wp2_with fail
          go_ret
          exact ⟨ret_int (by rw [hfin.out]; rfl), by rw [hfin.out]; exact hr.set_ 1 _, grown_set⟩

end Go.Proofs.Ytllakkepphpfmaa
