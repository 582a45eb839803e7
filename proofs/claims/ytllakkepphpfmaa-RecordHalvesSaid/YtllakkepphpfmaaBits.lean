/- Plain laws on bits: masks of 32 bits as lists of numbers. -/
import Derived.WalkKit
import Derived.Laws.Entries
namespace Go.Proofs.Ytllakkepphpfmaa
namespace Rc
open Go.RowKit

def maskN (S : List Int) : Nat := S.foldr (fun k m => m ||| 2 ^ k.toNat) 0
def In32 (S : List Int) : Prop := ∀ k ∈ S, 0 ≤ k ∧ k < 32

theorem maskN_lt (S : List Int) (h : In32 S) : maskN S < 2 ^ 32 := by
  induction S with
  | nil => simp [maskN]
  | cons k S ih =>
    have h1 : maskN S < 2 ^ 32 := ih fun x hx => h x (List.mem_cons_of_mem _ hx)
    have hk := h k List.mem_cons_self
    show maskN S ||| 2 ^ k.toNat < 2 ^ 32
    exact Nat.or_lt_two_pow h1 (Nat.pow_lt_pow_right (by omega) (by omega))

theorem maskN_test (S : List Int) (h : In32 S) (k : Int) (hk : 0 ≤ k) : (maskN S).testBit k.toNat = decide (k ∈ S) := by
  induction S with
  | nil => simp [maskN]
  | cons j S ih =>
    have h1 := ih fun x hx => h x (List.mem_cons_of_mem _ hx)
    have hj := h j List.mem_cons_self
    show (maskN S ||| 2 ^ j.toNat).testBit k.toNat = _
    rw [Nat.testBit_or, h1, Nat.testBit_two_pow]
    have e : (j.toNat = k.toNat) ↔ k = j := by omega
    by_cases hkj : k = j
    · simp [hkj]
    · have : ¬ j.toNat = k.toNat := by omega
      simp [hkj, this]

theorem bits_and_u32 (a b : Nat) (ha : a < 2 ^ 32) (hb : b < 2 ^ 32) : bits .and .u32 (a : Int) (b : Int) = ((a &&& b : Nat) : Int) := by
  have h : a &&& b < 2 ^ 32 := Nat.lt_of_le_of_lt Nat.and_le_left ha
  show IntKind.u32.wrap ((BitVec.ofInt 32 (a : Int) &&& BitVec.ofInt 32 (b : Int)).toNat : Int) = _
  rw [BitVec.toNat_and, BitVec.ofInt_natCast, BitVec.ofInt_natCast, BitVec.toNat_ofNat, BitVec.toNat_ofNat, Nat.mod_eq_of_lt (by omega), Nat.mod_eq_of_lt (by omega)]
  generalize a &&& b = c at h ⊢
  simp [IntKind.wrap, IntKind.bits, IntKind.signed]
  omega

theorem bits_or_u32 (a b : Nat) (ha : a < 2 ^ 32) (hb : b < 2 ^ 32) : bits .or .u32 (a : Int) (b : Int) = ((a ||| b : Nat) : Int) := by
  have h : a ||| b < 2 ^ 32 := Nat.or_lt_two_pow ha hb
  show IntKind.u32.wrap ((BitVec.ofInt 32 (a : Int) ||| BitVec.ofInt 32 (b : Int)).toNat : Int) = _
  rw [BitVec.toNat_or, BitVec.ofInt_natCast, BitVec.ofInt_natCast, BitVec.toNat_ofNat, BitVec.toNat_ofNat, Nat.mod_eq_of_lt (by omega), Nat.mod_eq_of_lt (by omega)]
  generalize a ||| b = c at h ⊢
  simp [IntKind.wrap, IntKind.bits, IntKind.signed]
  omega

theorem bits_and_u8 (a b : Nat) (ha : a < 2 ^ 8) (hb : b < 2 ^ 8) : bits .and .u8 (a : Int) (b : Int) = ((a &&& b : Nat) : Int) := by
  have h : a &&& b < 2 ^ 8 := Nat.lt_of_le_of_lt Nat.and_le_left ha
  show IntKind.u8.wrap ((BitVec.ofInt 8 (a : Int) &&& BitVec.ofInt 8 (b : Int)).toNat : Int) = _
  rw [BitVec.toNat_and, BitVec.ofInt_natCast, BitVec.ofInt_natCast, BitVec.toNat_ofNat, BitVec.toNat_ofNat, Nat.mod_eq_of_lt (by omega), Nat.mod_eq_of_lt (by omega)]
  generalize a &&& b = c at h ⊢
  simp [IntKind.wrap, IntKind.bits, IntKind.signed]
  omega

theorem bits_or_u8 (a b : Nat) (ha : a < 2 ^ 8) (hb : b < 2 ^ 8) : bits .or .u8 (a : Int) (b : Int) = ((a ||| b : Nat) : Int) := by
  have h : a ||| b < 2 ^ 8 := Nat.or_lt_two_pow ha hb
  show IntKind.u8.wrap ((BitVec.ofInt 8 (a : Int) ||| BitVec.ofInt 8 (b : Int)).toNat : Int) = _
  rw [BitVec.toNat_or, BitVec.ofInt_natCast, BitVec.ofInt_natCast, BitVec.toNat_ofNat, BitVec.toNat_ofNat, Nat.mod_eq_of_lt (by omega), Nat.mod_eq_of_lt (by omega)]
  generalize a ||| b = c at h ⊢
  simp [IntKind.wrap, IntKind.bits, IntKind.signed]
  omega

theorem bits_or_i64 (a b : Nat) (ha : a < 2 ^ 63) (hb : b < 2 ^ 63) : bits .or .i64 (a : Int) (b : Int) = ((a ||| b : Nat) : Int) := by
  have h : a ||| b < 2 ^ 63 := Nat.or_lt_two_pow ha hb
  show IntKind.i64.wrap ((BitVec.ofInt 64 (a : Int) ||| BitVec.ofInt 64 (b : Int)).toNat : Int) = _
  rw [BitVec.toNat_or, BitVec.ofInt_natCast, BitVec.ofInt_natCast, BitVec.toNat_ofNat, BitVec.toNat_ofNat, Nat.mod_eq_of_lt (by omega), Nat.mod_eq_of_lt (by omega)]
  generalize a ||| b = c at h ⊢
  simp [IntKind.wrap, IntKind.bits, IntKind.signed]
  omega

theorem bits_and_i64 (a b : Nat) (ha : a < 2 ^ 63) (hb : b < 2 ^ 63) : bits .and .i64 (a : Int) (b : Int) = ((a &&& b : Nat) : Int) := by
  have h : a &&& b < 2 ^ 63 := Nat.lt_of_le_of_lt Nat.and_le_left ha
  show IntKind.i64.wrap ((BitVec.ofInt 64 (a : Int) &&& BitVec.ofInt 64 (b : Int)).toNat : Int) = _
  rw [BitVec.toNat_and, BitVec.ofInt_natCast, BitVec.ofInt_natCast, BitVec.toNat_ofNat, BitVec.toNat_ofNat, Nat.mod_eq_of_lt (by omega), Nat.mod_eq_of_lt (by omega)]
  generalize a &&& b = c at h ⊢
  simp [IntKind.wrap, IntKind.bits, IntKind.signed]
  omega

/-- 'senders>>from&1 == 1' -/
theorem mask_asked (S : List Int) (h : In32 S) (k : Int) (hk : 0 ≤ k) (_hk' : k < 32) : (bits .and .u32 ((maskN S : Int) / 2 ^ k.toNat) 1 == 1) = decide (k ∈ S) := by
  have hlt := maskN_lt S h
  have e : ((maskN S : Int) / 2 ^ k.toNat) = ((maskN S / 2 ^ k.toNat : Nat) : Int) := by simp
  rw [e, show (1 : Int) = ((1 : Nat) : Int) from rfl, bits_and_u32 _ _ (Nat.lt_of_le_of_lt (Nat.div_le_self _ _) hlt) (by decide), ← maskN_test S h k hk, Nat.testBit, Nat.shiftRight_eq_div_pow]
  generalize maskN S / 2 ^ k.toNat = c
  rw [Nat.and_comm 1 c, Nat.and_one_is_mod]
  rcases Nat.mod_two_eq_zero_or_one c with h0 | h0 <;> rw [h0] <;> rfl

/-- 'senders |= 1 << from' -/
theorem mask_more (S : List Int) (h : In32 S) (k : Int) (hk : 0 ≤ k) (hk' : k < 32) : bits .or .u32 (maskN S : Int) (2 ^ k.toNat % 4294967296) = (maskN (k :: S) : Int) := by
  have hlt := maskN_lt S h
  have hp : 2 ^ k.toNat < 2 ^ 32 := Nat.pow_lt_pow_right (by omega) (by omega)
  have e : (2 ^ k.toNat % 4294967296 : Int) = ((2 ^ k.toNat : Nat) : Int) := by
    have : (2 ^ k.toNat : Int) = ((2 ^ k.toNat : Nat) : Int) := by simp
    rw [this]
    generalize 2 ^ k.toNat = c at hp ⊢
    omega
  rw [e, bits_or_u32 _ _ hlt hp]
  rfl
end Rc
end Go.Proofs.Ytllakkepphpfmaa
