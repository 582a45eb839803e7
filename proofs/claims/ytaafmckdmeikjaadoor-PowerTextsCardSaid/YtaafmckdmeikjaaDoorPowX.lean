/- Walks: texts of powers. -/
import Derived.Test.YtaafmckdmeikjaaDoorPow6
import Derived.Test.YtaafmckdmeikjaaDoorPow7
import Derived.Test.YtaafmckdmeikjaaDoorPowT
import Derived.Test.YtaafmckdmeikjaaDoorPowS
import Derived.Lib.LaidTab
import Derived.Lib.ItoaLen
namespace Go.Proofs.YtaafmckdmeikjaaDoor
open Go.RowKit

def digB (n : Nat) : UInt8 := UInt8.ofNat (48 + n)
def txt (l : List UInt8) : ByteArray := ⟨l.toArray⟩
theorem enc_txt {k : Nat} (h : k < 10) : Utf8.encode (48 + (k : Int)) = txt [digB k] := by
  have h' : ∀ n : Fin 10, Utf8.encode (48 + (n.val : Int)) = txt [digB n.val] := by decide +kernel
  exact h' ⟨k, h⟩
theorem txt_add (a b : List UInt8) : txt a ++ txt b = txt (a ++ b) := by
  unfold txt
  apply ByteArray.ext
  simp
theorem txt_size (a : List UInt8) : (txt a).size = a.length := rfl
theorem dec_digB (k : Nat) : Lib.decDigits k = (if k < 10 then [] else Lib.decDigits (k / 10)) ++ [digB (k % 10)] := by
  rw [Lib.decDigits]
  by_cases h : k < 10
  · rw [dif_pos h, if_pos h, Nat.mod_eq_of_lt h]; rfl
  · rw [dif_neg h, if_neg h]; rfl

set_option maxRecDepth 100000 in
set_option maxHeartbeats 1000000 in
theorem decimal_any (d : Nat) (hd : d ≤ 108) (w : World) : Calls Tryd.prog 15 #[.int .i64 d] w fun e w' => e = .returned (.string (txt (Lib.decDigits d))) ∧ w = w' := by
  obtain ⟨T, hT⟩ : ∃ T, T = txt (Lib.decDigits d) := ⟨_, rfl⟩
  rw [← hT]
  have HT := Lib.hid hT
  clear hT
  have E0 := Lib.hid (enc_txt (k := d % 10) (by omega))
  go_enter Tryd.func15, Tryd.ntmps15
  go_wp2_with fail
  go_loop [0, 3] (fun n o => ∃ (a : Int) (S : ByteArray), n = .int .i64 a ∧ o = .string S ∧ 0 ≤ a ∧ a ≤ 108 ∧ Hid (∃ (k : Nat) (l : List UInt8), a = k ∧ k + l.length ≤ 108 ∧ S = txt (digB (k % 10) :: l) ∧ T = txt (Lib.decDigits k ++ l))) (fun n _ => (intOf n).toNat)
  case atStart => exact ⟨d, Utf8.encode (48 + (d : Int) % 10), rfl, rfl, by omega, by omega, Lib.hid ⟨d, [], rfl, by simpa using hd, E0.out, by rw [HT.out, List.append_nil]⟩⟩
  case round =>
    obtain ⟨a, S, rfl, rfl, ha0, ha1, HK⟩ := hrel
    by_cases h10 : 10 ≤ a
    · obtain ⟨E, hE⟩ : ∃ E, Utf8.encode (48 + a / 10 % 10) = E := ⟨_, rfl⟩
      have hsz : S.size ≤ 200 := by
        obtain ⟨k, l, -, hk, rfl, -⟩ := HK.out
        rw [txt_size, List.length_cons]; omega
      have hez : E.size = 1 := by
        obtain ⟨k, l, rfl, hk, -, -⟩ := HK.out
        rw [← hE, show (48 + (k : Int) / 10 % 10) = 48 + ((k / 10 % 10 : Nat) : Int) by omega, enc_txt (by omega)]; rfl
      go_wp2_with fail
      refine ⟨⟨a / 10, E ++ S, rfl, rfl, by omega, by omega, Lib.hid ?_⟩, by simp [intOf]; omega⟩
      obtain ⟨k, l, rfl, hk, hS, h⟩ := HK.out
      have e : Utf8.encode (48 + (k : Int) / 10 % 10) = txt [digB (k / 10 % 10)] := by rw [show (48 + (k : Int) / 10 % 10) = 48 + ((k / 10 % 10 : Nat) : Int) by omega, enc_txt (by omega)]
      refine ⟨k / 10, digB (k % 10) :: l, by omega, by rw [List.length_cons]; omega, by rw [← hE, e, hS, txt_add]; rfl, ?_⟩
      rw [h, dec_digB k, if_neg (by omega), List.append_assoc]; rfl
    · have h10' : decide (a < 10) = true := decide_eq_true (by omega)
      have HJ : Hid (S = T) := Lib.hid (by
        obtain ⟨k, l, rfl, hk, rfl, h⟩ := HK.out
        rw [h, dec_digB, if_pos (by omega)]; rfl)
      go_wp2_with fail
      go_ret
      have hJ := HJ.out
      subst hJ
      exact ⟨rfl, rfl⟩
end Go.Proofs.YtaafmckdmeikjaaDoor
