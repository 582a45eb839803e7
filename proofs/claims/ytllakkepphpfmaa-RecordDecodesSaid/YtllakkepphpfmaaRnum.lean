/- Walk: number of the reference's reader. -/
import Derived.Test.YtllakkepphpfmaaNum
namespace Go.Proofs.Ytllakkepphpfmaa
open Go.RowKit
open Rc

/-- the reference's number: it reads on where something was bad before -/
def Rc.numR (data : List UInt8) (bad : Bool) : Nat × List UInt8 × Bool :=
  match numF 4 0 0 data with
  | some (n, b, l) => (n, l, bad || b)
  | none => (0, data, true)

/-- the walk's own form of 'n += b % 128 << shift' -/
theorem rnum_step (n i : Nat) (c : UInt8) (hi : i < 4) (hn : n < 128 ^ i) : Go.RowKit.wrap64 ((n : Int) + Go.RowKit.wrap64 ((c.toNat : Int) % 128 * 2 ^ (7 * i))) = ((n + c.toNat % 128 * 128 ^ i : Nat) : Int) := by
  have hx : c.toNat % 128 < 128 := Nat.mod_lt _ (by decide)
  have h5 : 2 ^ (7 * i) ≤ 2097152 := Nat.le_trans (Nat.pow_le_pow_right (by decide) (show 7 * i ≤ 21 by omega)) (by decide)
  have e128 : (128 : Nat) ^ i = 2 ^ (7 * i) := by rw [show (128 : Nat) = 2 ^ 7 from rfl, ← Nat.pow_mul]
  rw [show ((c.toNat : Int) % 128) = ((c.toNat % 128 : Nat) : Int) by omega]
  generalize c.toNat % 128 = x at hx ⊢
  have e3 : ((x : Int) * 2 ^ (7 * i)) = ((x * 2 ^ (7 * i) : Nat) : Int) := by simp
  have hp : x * 2 ^ (7 * i) ≤ 127 * 2097152 := Nat.mul_le_mul (by omega) h5
  rw [e3, e128]
  rw [e128] at hn
  have hn2 : n < 2097152 := by omega
  generalize x * 2 ^ (7 * i) = y at hp ⊢
  have w1 := IntWalk.wrap64_in (y : Int) ⟨by omega, by omega⟩
  have w2 := IntWalk.wrap64_in ((n : Int) + (y : Int)) ⟨by omega, by omega⟩
  rw [w1, w2]
  omega

set_option maxRecDepth 100000 in
set_option maxHeartbeats 2000000 in
theorem rnumber_any (g : Nat) (data : List UInt8) (bad : Bool) (w : World) (hl : data.length ≤ 1000000) (hr : Rdr w g 72 data bad) :
    Calls Try.prog 39 #[.pointer (some ⟨g, 0, none⟩)] w fun e w' => e = .returned (.int .i64 ((numR data bad).1 : Nat)) ∧ Rdr w' g 72 (numR data bad).2.1 (numR data bad).2.2 ∧ w.grownBy w' (some g) := by
  have c0 := hr.row 0
  have c1 := hr.row 1
  have f0 := hr.frozen 0
  have f1 := hr.frozen 1
  simp only [List.getElem?_cons_zero, List.getElem?_cons_succ] at c0 c1
  go_enter Try.func39, Try.ntmps39
  go_wp2_with fail
  go_loop [2, 3, 4, 5] (fun s2 s3 s4 s5 => ∃ (i n : Nat), i ≤ 4 ∧ i ≤ data.length ∧ s5 = .int .i64 i ∧ s4 = .int .i64 (7 * i : Nat) ∧ s3 = .int .i64 n ∧ s2 = .int .i64 0 ∧ n ≤ 268435456 ∧ Hid (n < 128 ^ i) ∧ Hid (numF 4 0 0 data = numF (4 - i) i n (data.drop i))) (fun _ _ _ s5 => 4 - (intOf s5).toNat)
  case atStart => exact ⟨0, 0, by omega, by omega, rfl, rfl, rfl, rfl, by omega, Lib.hid (by simp), Lib.hid rfl⟩
  case round =>
    obtain ⟨i, n, hi4, hil, rfl, rfl, rfl, rfl, hn28, hn, hst⟩ := hrel
    by_cases hi : i < 4 ∧ i < data.length
    · obtain ⟨h4, hlt⟩ := hi
      obtain ⟨c, hc⟩ := get_of_lt hlt
      have hd := Lib.hid (drop_of_get hc)
      have hcb : (⟨data.toArray⟩ : ByteArray)[i]'(by show i < data.toArray.size; simpa using hlt) = c := (List.getElem?_eq_some_iff.1 hc).2
      have hst' := hst.out
      rw [hd.out, show 4 - i = (3 - i) + 1 by omega] at hst'
      simp only [numF] at hst'
      clear hc
      have hc256 : c.toNat < 256 := c.toNat_lt
      have hns := Lib.hid (rnum_step n i c h4 hn.out)
      have hnl : Hid (n + c.toNat % 128 * 128 ^ i < 128 ^ (i + 1)) := Lib.hid (by
        have := hn.out
        rw [Nat.pow_succ]
        have h1 : c.toNat % 128 < 128 := Nat.mod_lt _ (by decide)
        have h2 : c.toNat % 128 * 128 ^ i ≤ 127 * 128 ^ i := Nat.mul_le_mul_right _ (by omega)
        omega)
      by_cases h128 : c.toNat < 128
      · rw [if_pos h128] at hst'
        have hfin : Hid (numR data bad = (n + c.toNat % 128 * 128 ^ i, data.drop (i + 1), bad || (decide (c.toNat = 0) && decide (0 < i)))) := Lib.hid (by simp [numR, hst'])
        clear hst' hst
        have hfd := Lib.hid (extract_drop data (i + 1))
        cases bad with
        | true =>
          go_wp2_with fail
          go_ret
          exact ⟨ret_int (by rw [hfin.out, ← hns.out]), by rw [hfin.out]; unfold Rdr; dsimp only; rw [← hfd.out]; exact (hr.set_ 1 _).set_ 0 _, grown_set.trans grown_set⟩
        | false =>
          by_cases hc0 : c.toNat = 0
          · have hb0 : ((c.toNat : Int) == 0) = true := by simp [hc0]
            have hfin2 : Hid (numR data false = (n + c.toNat % 128 * 128 ^ i, data.drop (i + 1), decide (0 < i))) := Lib.hid (by rw [hfin.out, hc0]; simp)
            clear hc0 hfin
            go_wp2_with fail
            go_ret
            exact ⟨ret_int (by rw [hfin2.out, ← hns.out]), by rw [hfin2.out]; unfold Rdr; dsimp only; rw [← hfd.out]; exact (hr.set_ 1 _).set_ 0 _, grown_set.trans grown_set⟩
          · have hb0 : ((c.toNat : Int) == 0) = false := by simpa using hc0
            have hfin2 : Hid (numR data false = (n + c.toNat % 128 * 128 ^ i, data.drop (i + 1), false)) := Lib.hid (by rw [hfin.out]; simp [hc0])
            clear hc0 hfin
            go_wp2_with fail
            go_ret
            exact ⟨ret_int (by rw [hfin2.out, ← hns.out]), by rw [hfin2.out]; unfold Rdr; dsimp only; rw [← hfd.out]; exact (hr.set_ 1 _).set_ 0 _, grown_set.trans grown_set⟩
      · rw [if_neg h128] at hst'
        have hst2 : Hid (numF 4 0 0 data = numF (4 - (i + 1)) (i + 1) (n + c.toNat % 128 * 128 ^ i) (data.drop (i + 1))) := Lib.hid (by rw [hst', show 4 - (i + 1) = 3 - i by omega])
        have hle : n + c.toNat % 128 * 128 ^ i ≤ 268435456 := by
          have h1 := hnl.out
          have h2 : (128 : Nat) ^ (i + 1) ≤ 128 ^ 4 := Nat.pow_le_pow_right (by decide) (by omega)
          have h3 : (128 : Nat) ^ 4 = 268435456 := by decide
          omega
        have HLE := Lib.hid hle
        clear hst' hst hle
        go_wp2_with fail
        go_round
        case rel => exact ⟨i + 1, n + c.toNat % 128 * 128 ^ i, by omega, by omega, by go_num, by go_num, by rw [← hns.out], rfl, HLE.out, hnl, hst2⟩
        case measure => simp [intOf]; omega
    · have hnone : numF (4 - i) i n (data.drop i) = none := by
        by_cases h4 : i < 4
        · have : data.drop i = [] := List.drop_of_length_le (by omega)
          rw [this, show 4 - i = (3 - i) + 1 by omega]; rfl
        · rw [show 4 - i = 0 by omega]; rfl
      have hfin : Hid (numR data bad = (0, data, true)) := Lib.hid (by simp [numR, hst.out, hnone])
      clear hst hnone
      by_cases hlt : i < data.length
      · have h4 : ¬ i < 4 := by omega
        go_wp2_with fail
        go_ret
        exact ⟨ret_int (by rw [hfin.out]; rfl), by rw [hfin.out]; exact hr.set_ 1 _, grown_set⟩
      · go_wp2_with fail
        go_ret
        exact ⟨ret_int (by rw [hfin.out]; rfl), by rw [hfin.out]; exact hr.set_ 1 _, grown_set⟩
end Go.Proofs.Ytllakkepphpfmaa
