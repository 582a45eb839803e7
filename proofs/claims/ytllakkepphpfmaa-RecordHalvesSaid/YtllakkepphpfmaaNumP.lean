/- Reading numbers of seven bits a byte, plain. -/
import Derived.Test.YtllakkepphpfmaaEncP
namespace Go.Proofs.Ytllakkepphpfmaa
namespace Rc

/-- a number out of bytes: what it is, whether it ends in a needless byte, what is left; at most f bytes -/
def numF : Nat → Nat → Nat → List UInt8 → Option (Nat × Bool × List UInt8)
  | 0, _, _, _ => none
  | _ + 1, _, _, [] => none
  | f + 1, i, n, c :: l => if c.toNat < 128 then some (n + c.toNat % 128 * 128 ^ i, decide (c.toNat = 0) && decide (0 < i), l) else numF f (i + 1) (n + c.toNat % 128 * 128 ^ i) l

/-- number: (n, data, bad) behind it -/
def numS (k : Nat) (data : List UInt8) (bad : Bool) : Nat × List UInt8 × Bool :=
  if bad then (0, data, true) else
  match numF k 0 0 data with
  | some (n, b, l) => (n, l, b)
  | none => (0, data, true)

theorem numF_lt : ∀ (f i n : Nat) (l : List UInt8) (m : Nat) (b : Bool) (l' : List UInt8), numF f i n l = some (m, b, l') → n < 128 ^ i → m < 128 ^ (i + f) ∧ l'.length < l.length
  | 0, _, _, _, _, _, _, h, _ => by simp [numF] at h
  | f + 1, i, n, [], _, _, _, h, _ => by simp [numF] at h
  | f + 1, i, n, c :: l, m, b, l', h, hn => by
    have hx : n + c.toNat % 128 * 128 ^ i < 128 ^ (i + 1) := by
      rw [Nat.pow_succ]
      have : c.toNat % 128 < 128 := Nat.mod_lt _ (by decide)
      have h2 : c.toNat % 128 * 128 ^ i ≤ 127 * 128 ^ i := Nat.mul_le_mul_right _ (by omega)
      omega
    simp only [numF] at h
    by_cases hc : c.toNat < 128
    · rw [if_pos hc] at h
      injection h with h
      injection h with h1 h2
      injection h2 with h2 h3
      subst h1 h3
      refine ⟨Nat.lt_of_lt_of_le hx (Nat.pow_le_pow_right (by decide) (by omega)), by simp⟩
    · rw [if_neg hc] at h
      obtain ⟨h1, h2⟩ := numF_lt f (i + 1) _ l m b l' h hx
      refine ⟨by rw [show i + (f + 1) = i + 1 + f by omega]; exact h1, by simp; omega⟩

theorem numS_lt (data : List UInt8) (bad : Bool) : (numS 5 data bad).1 < 34359738368 := by
  unfold numS
  split
  · simp
  · split
    · rename_i n b l h
      have := (numF_lt 5 0 0 data n b l h (by simp)).1
      simpa using this
    · simp
theorem numS_len (k : Nat) (data : List UInt8) (bad : Bool) : (numS k data bad).2.1.length ≤ data.length := by
  unfold numS
  split
  · simp
  · split
    · rename_i n b l h
      have := (numF_lt k 0 0 data n b l h (by simp)).2
      simp; omega
    · simp
theorem numS_len_lt (k : Nat) (data : List UInt8) (bad : Bool) (h : (numS k data bad).2.2 = false) : (numS k data bad).2.1.length < data.length := by
  cases bad with
  | true => simp [numS] at h
  | false =>
    simp only [numS, Bool.false_eq_true, if_false] at h ⊢
    cases hn : numF k 0 0 data with
    | none => rw [hn] at h; simp at h
    | some p =>
      obtain ⟨n, b, l⟩ := p
      exact (numF_lt k 0 0 data n b l hn (by simp)).2

/-- 'n |= x << (7 * i)' where n has fewer bits -/
theorem or_shift (n x i : Nat) (hn : n < 128 ^ i) : n ||| (x * 2 ^ (7 * i)) = n + x * 128 ^ i := by
  have e : (128 : Nat) ^ i = 2 ^ (7 * i) := by rw [show (128 : Nat) = 2 ^ 7 from rfl, ← Nat.pow_mul]
  rw [e] at hn ⊢
  rw [Nat.or_comm, Nat.mul_comm x, ← Nat.two_pow_add_eq_or_of_lt hn, Nat.add_comm]
theorem and_127 (c : UInt8) : bits .and .u8 (c.toNat : Int) 127 = ((c.toNat % 128 : Nat) : Int) := by
  have h0 : ∀ m : Fin 256, m.val &&& 127 = m.val % 128 := by decide +kernel
  have hc : c.toNat < 256 := c.toNat_lt
  rw [show (127 : Int) = ((127 : Nat) : Int) from rfl, bits_and_u8 _ _ (by omega) (by decide)]
  have := h0 ⟨c.toNat, hc⟩
  simp only at this
  rw [this]

theorem wrap_small (y : Nat) (h : y ≤ 100000000000) : Go.RowKit.wrap64 (y : Int) = (y : Int) := IntWalk.wrap64_in _ ⟨by omega, by omega⟩

theorem or_small (n y : Nat) (hn : n ≤ 100000000000) (hy : y ≤ 100000000000) : bits .or .i64 (n : Int) (y : Int) = ((n ||| y : Nat) : Int) := bits_or_i64 _ _ (by omega) (by omega)

/-- the walk's own form of 'n |= int(c&127) << (7 * i)' -/
theorem num_step (n i : Nat) (c : UInt8) (hi : i < 5) (hn : n < 128 ^ i) : bits .or .i64 (n : Int) (Go.RowKit.wrap64 (Go.RowKit.wrap64 (bits .and .u8 (c.toNat : Int) 127) * 2 ^ (7 * i))) = ((n + c.toNat % 128 * 128 ^ i : Nat) : Int) := by
  have hx : c.toNat % 128 < 128 := Nat.mod_lt _ (by decide)
  have h5 : 2 ^ (7 * i) ≤ 268435456 := Nat.le_trans (Nat.pow_le_pow_right (by decide) (show 7 * i ≤ 28 by omega)) (by decide)
  have e128 : (128 : Nat) ^ i = 2 ^ (7 * i) := by rw [show (128 : Nat) = 2 ^ 7 from rfl, ← Nat.pow_mul]
  have ho := or_shift n (c.toNat % 128) i hn
  rw [and_127]
  generalize c.toNat % 128 = x at hx ho ⊢
  rw [wrap_small x (by omega)]
  have e3 : ((x : Int) * 2 ^ (7 * i)) = ((x * 2 ^ (7 * i) : Nat) : Int) := by simp
  have hp : x * 2 ^ (7 * i) ≤ 127 * 268435456 := Nat.mul_le_mul (by omega) h5
  rw [e3]
  rw [e128] at hn
  generalize x * 2 ^ (7 * i) = y at hp ho ⊢
  rw [wrap_small y (by omega), or_small n y (by omega) (by omega), ho]

theorem extract_drop (data : List UInt8) (k : Nat) : (⟨data.toArray⟩ : ByteArray).extract k data.length = ⟨(data.drop k).toArray⟩ := by
  apply ByteArray.ext
  simp only [ByteArray.data_extract, List.extract_toArray]
  rw [List.extract_eq_take_drop, List.take_of_length_le (by simp)]
end Rc
end Go.Proofs.Ytllakkepphpfmaa
