/- Walks: the reference of Parse of powers. -/
import Derived.Test.YtaafmckdmeikjaaDoorPowZ
namespace Go.Proofs.YtaafmckdmeikjaaDoor
open Go.RowKit

theorem dg_take {d : List UInt8} {k : Nat} {c : UInt8} (h : d[k]? = some c) : (d.take (k + 1)).all dg = ((d.take k).all dg && dg c) := by
  rw [List.take_add_one, h, List.all_append]
  simp
theorem digR_bad {d : List UInt8} {k : Nat} {c : UInt8} (h : d[k]? = some c) (hc : dg c = false) : digR d = (0, 3) := by
  unfold digR
  rw [if_neg]
  rintro ⟨_, h2, _⟩
  rw [List.all_eq_true] at h2
  rw [h2 c (List.mem_of_getElem? h)] at hc
  cases hc
theorem digR_lead {d : List UInt8} (h1 : 1 < d.length) (h : d.head? = some 48) : digR d = (0, 3) := by
  unfold digR
  rw [if_neg]
  rintro ⟨_, _, h2⟩
  unfold zlead at h2
  rw [h] at h2
  simp at h2
  omega
theorem digR_fin {d : List UInt8} (hn : 1 ≤ d.length) (ha : (d.take d.length).all dg = true) (hz : d.length ≤ 1 ∨ d.head? ≠ some 48) : digR d = levR (satF 0 (d.take d.length) : Nat) := by
  rw [List.take_length] at ha ⊢
  have hz' : zlead d = false := by
    unfold zlead
    rcases hz with h | h
    · rw [decide_eq_false (by omega)]; rfl
    · rw [beq_eq_false_iff_ne.2 h, Bool.and_false]
  unfold digR
  rw [if_pos ⟨by rintro rfl; simp at hn, ha, hz'⟩]
set_option maxRecDepth 100000 in
set_option maxHeartbeats 1000000 in
theorem rparse_any (s : ByteArray) (hs : s.size ≤ 40) (w : World) : Calls Tryd.prog 8 #[.string s] w fun e w' => e = .returned (.tuple #[.int .i64 (parR s.data.toList).1, .int .i64 (parR s.data.toList).2]) ∧ Below w.heap.size w w' := by
  obtain ⟨R, hR⟩ : ∃ R, R = parR s.data.toList := ⟨_, rfl⟩
  rw [← hR]
  have HR := Lib.hid hR
  clear hR
  have hlen : s.data.toList.length = s.size := rfl
  by_cases h4 : s.size < 4
  · have e : Hid (R = (0, 3)) := Lib.hid (by
      rw [HR.out]
      unfold parR
      split
      · have : s.data.toList.take (s.data.toList.length - 3) = [] := by rw [show s.data.toList.length - 3 = 0 by omega]; rfl
        rw [this]; rfl
      · rfl)
    clear hlen
    go_enter Tryd.func8, Tryd.ntmps8
    go_wp2_with fail
    go_ret2
    exact ⟨by rw [e.out]; rfl, Below.refl _ _⟩
  have h4' : 4 ≤ s.size := by omega
  have h5 : decide ((s.size : Int) < 4) = false := decide_eq_false (by omega)
  have hraw := Lib.hasSuffix_raw s ⟨#[32, 100, 66]⟩
  rw [show (⟨#[32, 100, 66]⟩ : ByteArray).size = 3 from rfl, show (⟨#[32, 100, 66]⟩ : ByteArray).toList = [32, 100, 66] by rw [ByteArray.toList_eq], decide_eq_true (show 3 ≤ s.size by omega), Bool.true_and] at hraw
  cases hB : Lib.hasSuffix s.data.toList unitB with
  | false =>
    have e := Lib.hid (show R = (0, 3) by rw [HR.out, parR, hB]; rfl)
    have h6 : ((s.extract (s.size - 3) s.size).toList == [32, 100, 66]) = false := by rw [hraw]; exact hB
    clear hraw hB hlen
    go_enter Tryd.func8, Tryd.ntmps8
    go_wp2_with fail
    go_ret2
    exact ⟨by rw [e.out]; rfl, Below.refl _ _⟩
  | true =>
  have h6 : ((s.extract (s.size - 3) s.size).toList == [32, 100, 66]) = true := by rw [hraw]; exact hB
  obtain ⟨d, hd⟩ : ∃ d, d = s.data.toList.take (s.data.toList.length - 3) := ⟨_, rfl⟩
  have HD : Hid (R = digR d) := Lib.hid (by rw [HR.out, parR, hB, hd]; rfl)
  have hdl : d.length = s.size - 3 := by rw [hd, List.length_take, hlen]; omega
  have hat : ∀ (k : Nat) (h : k < s.size), k + 3 < s.size → d[k]? = some (s[k]'h) := fun k h h3 => by
    rw [hd, List.getElem?_take_of_lt (by omega), List.getElem?_eq_getElem (by omega)]
    rfl
  have HAT := Lib.hid hat
  have HDL := Lib.hid hdl
  have HL := Lib.hid fun n W => rLevel_any n W
  obtain ⟨c0, hc0, hd0⟩ : ∃ c0, (∀ h, s[0]'h = c0) ∧ d.head? = some c0 := ⟨s[0]'(by omega), fun _ => rfl, by rw [List.head?_eq_getElem?]; exact hat 0 (by omega) (by omega)⟩
  have HD0 := Lib.hid hd0
  clear hraw hd hdl hat hB HR hlen hd0
  go_enter Tryd.func8, Tryd.ntmps8
  go_wp2_with fail
  go_loop [5, 6] (fun o i => ∃ (k : Nat) (a : Int), k + 3 ≤ s.size ∧ o = .int .i64 a ∧ i = .int .i64 k ∧ 0 ≤ a ∧ a ≤ 1000 ∧ Hid ((d.take k).all dg = true ∧ (k ≤ 1 ∨ d.head? ≠ some 48) ∧ a = (satF 0 (d.take k) : Nat))) (fun _ i => 40 - (intOf i).toNat)
  case atStart => exact ⟨0, 0, by omega, rfl, rfl, by omega, by omega, Lib.hid ⟨rfl, Or.inl (by omega), rfl⟩⟩
  case round =>
    obtain ⟨k, a, hk, rfl, rfl, ha0, ha1, HI⟩ := hrel
    by_cases hlt : k + 3 < s.size
    · have h7 : (k : Int) < s.size - 3 := by omega
      obtain ⟨c, hc, hdc⟩ : ∃ c, (∀ h, s[k]'h = c) ∧ d[k]? = some c := ⟨s[k]'(by omega), fun _ => rfl, HAT.out k (by omega) hlt⟩
      have HC := Lib.hid hdc
      clear hdc
      by_cases g1 : (c.toNat : Int) < 48
      · have e := Lib.hid (show R = (0, 3) by rw [HD.out]; exact digR_bad HC.out (decide_eq_false (by omega)))
        go_wp2_with fail
        go_ret2
        exact ⟨by rw [e.out]; rfl, Below.refl _ _⟩
      by_cases g2 : 57 < (c.toNat : Int)
      · have e := Lib.hid (show R = (0, 3) by rw [HD.out]; exact digR_bad HC.out (decide_eq_false (by omega)))
        go_wp2_with fail
        go_ret2
        exact ⟨by rw [e.out]; rfl, Below.refl _ _⟩
      have g3 : decide ((c.toNat : Int) < 48) = false := decide_eq_false g1
      have g4 : decide (57 < (c.toNat : Int)) = false := decide_eq_false g2
      have HA : Hid ((d.take (k + 1)).all dg = true) := Lib.hid (by rw [dg_take HC.out, HI.out.1, Bool.true_and]; exact decide_eq_true (by omega))
      have HS : Hid ((satF 0 (d.take (k + 1)) : Nat) = min (10 * a + ((c.toNat : Int) - 48)) 1000) := Lib.hid (by rw [satF_take HC.out, HI.out.2.2]; omega)
      by_cases k1 : k = 1
      · subst k1
        cases g5 : ((c0.toNat : Int) == 48) with
        | true =>
          have e := Lib.hid (show R = (0, 3) by
            rw [HD.out]
            refine digR_lead (by rw [HDL.out]; omega) ?_
            rw [HD0.out]
            have : (c0.toNat : Int) = 48 := by simpa using g5
            rw [show c0 = 48 from UInt8.toNat_inj.1 (by show c0.toNat = 48; omega)])
          go_wp2_with fail
          go_ret2
          exact ⟨by rw [e.out]; rfl, Below.refl _ _⟩
        | false =>
          go_wp2_with fail
          refine ⟨⟨2, _, by omega, rfl, rfl, by omega, by omega, Lib.hid ⟨HA.out, Or.inr ?_, ?_⟩⟩, by simp [intOf]⟩
          · rw [HD0.out]
            intro h
            have h := Option.some.inj h
            rw [h] at g5
            cases g5
          · rw [HS.out]
      · have HZ : Hid (k + 1 ≤ 1 ∨ d.head? ≠ some 48) := Lib.hid (by rcases HI.out.2.1 with h | h; exact Or.inl (by omega); exact Or.inr h)
        go_wp2_with fail
        exact ⟨⟨k + 1, _, by omega, rfl, by go_num, by omega, by omega, Lib.hid ⟨HA.out, HZ.out, by rw [HS.out]⟩⟩, by simp [intOf]; omega⟩
    · have h7 : ¬ (k : Int) < s.size - 3 := by omega
      have e := Lib.hid (show R = levR a by
        have hkd : k = d.length := by rw [HDL.out]; omega
        obtain ⟨b1, b2, b3⟩ := HI.out
        subst hkd
        rw [HD.out, b3]
        exact digR_fin (by rw [HDL.out]; omega) b1 b2)
      go_wp2_with (go_at_call 19; (with_reducible refine (HL.out _ _).mono ?_); rintro e w4 ⟨rfl, hb⟩)
      go_ret2
      exact ⟨by rw [e.out]; rfl, hb⟩
end Go.Proofs.YtaafmckdmeikjaaDoor
