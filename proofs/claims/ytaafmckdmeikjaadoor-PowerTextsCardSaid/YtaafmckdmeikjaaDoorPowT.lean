/- Plain: what Format and Parse of powers give. -/
import Derived.Test.YtaafmckdmeikjaaDoorPowP
import Derived.Lib.AtoiAll
import Derived.Lib.SlTrimSet
import Derived.Lib.Strings
import Derived.Lib.ItoaNum
namespace Go.Proofs.YtaafmckdmeikjaaDoor

def dg (b : UInt8) : Bool := decide (48 ≤ b.toNat ∧ b.toNat ≤ 57)
def decB : List UInt8 := [48, 49, 50, 51, 52, 53, 54, 55, 56, 57]
def dvalF (a : Nat) (l : List UInt8) : Nat := l.foldl (fun a b => a * 10 + (b.toNat - 48)) a
def satF (a : Nat) (l : List UInt8) : Nat := l.foldl (fun a b => min (10 * a + (b.toNat - 48)) 1000) a
def zlead (l : List UInt8) : Bool := decide (1 < l.length) && l.head? == some 48
/-- What Parse gives for the digits ahead of the unit. -/
def digR (d : List UInt8) : Int × Int := if d ≠ [] ∧ d.all dg = true ∧ zlead d = false then levR (satF 0 d : Nat) else (0, 3)

theorem decB_dg (b : UInt8) : decB.contains b = dg b := by
  have h : ∀ n : Fin 256, decB.contains (UInt8.ofNat n.val) = dg (UInt8.ofNat n.val) := by decide +kernel
  have := h ⟨b.toNat, b.toNat_lt⟩
  simpa using this
theorem dropWhile_nil {α} {p : α → Bool} : ∀ {l : List α}, l.dropWhile p = [] → l.all p = true
  | [], _ => rfl
  | x :: l, h => by
    rw [List.dropWhile_cons] at h
    cases hx : p x with
    | false => rw [hx] at h; cases h
    | true =>
      rw [hx] at h
      rw [List.all_cons, hx, dropWhile_nil (by simpa using h)]; rfl
theorem dropWhile_all {α} {p : α → Bool} : ∀ {l : List α}, l.all p = true → l.dropWhile p = []
  | [], _ => rfl
  | x :: l, h => by
    rw [List.all_cons, Bool.and_eq_true] at h
    rw [List.dropWhile_cons, h.1]
    simpa using dropWhile_all h.2
theorem trim_dg (l : List UInt8) : (Go.Lib.trimS l decB = []) ↔ l.all dg = true := by
  have hp : (fun b : UInt8 => decB.contains b) = dg := funext decB_dg
  constructor
  · intro h
    unfold Go.Lib.trimS Go.Lib.trimLeftS at h
    have h1 := dropWhile_nil h
    rw [show (fun x => decB.contains x) = dg from hp] at h1
    unfold Go.Lib.trimRightS at h1
    rw [show (fun x => decB.contains x) = dg from hp, List.all_reverse] at h1
    have e : l.reverse.all dg = true := by
      rw [← List.takeWhile_append_dropWhile (p := dg) (l := l.reverse), List.all_append, h1, Bool.and_true]
      exact List.all_takeWhile
    rwa [List.all_reverse] at e
  · intro h
    unfold Go.Lib.trimS Go.Lib.trimLeftS Go.Lib.trimRightS
    rw [show (fun x => decB.contains x) = dg from hp, dropWhile_all (l := l.reverse) (by rwa [List.all_reverse])]
    rfl
theorem dvalF_le : ∀ (l : List UInt8) (a : Nat), a ≤ dvalF a l
  | [], a => Nat.le_refl _
  | b :: l, a => by
    have := dvalF_le l (a * 10 + (b.toNat - 48))
    unfold dvalF at this ⊢
    rw [List.foldl_cons]
    omega
theorem parse_dg : ∀ (l : List UInt8) (a : Nat), l.all dg = true → a < 18446744073709551616 → (Go.Lib.parseUint10 a l = .ok (dvalF a l) ∧ dvalF a l < 18446744073709551616) ∨ (Go.Lib.parseUint10 a l = .range ∧ 18446744073709551616 ≤ dvalF a l)
  | [], a, _, ha => Or.inl ⟨rfl, ha⟩
  | b :: l, a, h, ha => by
    rw [List.all_cons, Bool.and_eq_true] at h
    have hb : 48 ≤ b.toNat ∧ b.toNat ≤ 57 := of_decide_eq_true h.1
    have hl := dvalF_le l (a * 10 + (b.toNat - 48))
    have e : dvalF a (b :: l) = dvalF (a * 10 + (b.toNat - 48)) l := rfl
    rw [Go.Lib.parseUint10, if_pos hb, e]
    by_cases h1 : 1844674407370955162 ≤ a
    · rw [if_pos h1]; exact Or.inr ⟨rfl, by omega⟩
    · rw [if_neg h1]
      by_cases h2 : 18446744073709551616 ≤ a * 10 + (b.toNat - 48)
      · rw [if_pos h2]; exact Or.inr ⟨rfl, by omega⟩
      · rw [if_neg h2]; exact parse_dg l _ h.2 (by omega)
theorem atoi_dg {l : List UInt8} (hn : l ≠ []) (h : l.all dg = true) : (Go.Lib.atoiAll l = .ok (dvalF 0 l : Nat) ∧ dvalF 0 l < 9223372036854775808) ∨ (Go.Lib.atoiAll l = .range ∧ 9223372036854775808 ≤ dvalF 0 l) := by
  cases l with
  | nil => exact absurd rfl hn
  | cons b r =>
    have h' := h
    rw [List.all_cons, Bool.and_eq_true] at h'
    have hb : 48 ≤ b.toNat ∧ b.toNat ≤ 57 := of_decide_eq_true h'.1
    unfold Go.Lib.atoiAll
    dsimp only
    rw [if_neg (by omega)]
    unfold Go.Lib.parseMag
    rw [if_neg hn]
    rcases parse_dg (b :: r) 0 h (by decide) with ⟨e, hlt⟩ | ⟨e, hle⟩
    · rw [e]
      dsimp only
      by_cases h1 : 9223372036854775808 ≤ dvalF 0 (b :: r)
      · rw [if_pos ⟨by omega, h1⟩]; exact Or.inr ⟨rfl, h1⟩
      · rw [if_neg (by omega), if_neg (by omega), if_neg (by omega)]; exact Or.inl ⟨rfl, by omega⟩
    · rw [e]; exact Or.inr ⟨rfl, by omega⟩
theorem sat_dval : ∀ (l : List UInt8) (a : Nat), satF (min a 1000) l = min (dvalF a l) 1000
  | [], a => rfl
  | b :: l, a => by
    have e1 : satF (min a 1000) (b :: l) = satF (min (10 * min a 1000 + (b.toNat - 48)) 1000) l := rfl
    have e2 : dvalF a (b :: l) = dvalF (a * 10 + (b.toNat - 48)) l := rfl
    rw [e1, e2, show min (10 * min a 1000 + (b.toNat - 48)) 1000 = min (a * 10 + (b.toNat - 48)) 1000 by omega]
    exact sat_dval l _
theorem sat0 (l : List UInt8) : satF 0 l = min (dvalF 0 l) 1000 := sat_dval l 0
theorem lev_sat (l : List UInt8) : levR (dvalF 0 l : Nat) = levR (satF 0 l : Nat) := by
  rw [sat0]
  by_cases h : dvalF 0 l ≤ 108
  · rw [Nat.min_eq_left (by omega)]
  · rw [levR_no (Or.inr (by omega)), levR_no (Or.inr (by omega))]
theorem lev_big {l : List UInt8} (h : 9223372036854775808 ≤ dvalF 0 l) : levR (satF 0 l : Nat) = (0, 2) := by
  rw [sat0]; exact levR_no (Or.inr (by omega))
theorem satF_le : ∀ (l : List UInt8) (a : Nat), a ≤ 1000 → satF a l ≤ 1000
  | [], a, h => h
  | b :: l, a, h => satF_le l _ (Nat.min_le_right _ _)
theorem satF_take {l : List UInt8} {k : Nat} {b : UInt8} (h : l[k]? = some b) : satF 0 (l.take (k + 1)) = min (10 * satF 0 (l.take k) + (b.toNat - 48)) 1000 := by
  unfold satF
  rw [List.take_add_one, h, List.foldl_append]
  rfl

/-- Numerals of at most three digits. -/
def d3 (n : Nat) : List UInt8 := if n < 10 then [UInt8.ofNat (48 + n)] else if n < 100 then [UInt8.ofNat (48 + n / 10), UInt8.ofNat (48 + n % 10)] else [UInt8.ofNat (48 + n / 10 / 10), UInt8.ofNat (48 + n / 10 % 10), UInt8.ofNat (48 + n % 10)]
theorem dec_d3 {n : Nat} (h : n < 1000) : Go.Lib.decDigits n = d3 n := by
  unfold d3
  by_cases h1 : n < 10
  · rw [Go.Lib.decDigits, dif_pos h1, if_pos h1]
  · rw [Go.Lib.decDigits, dif_neg h1, if_neg h1]
    by_cases h2 : n < 100
    · rw [Go.Lib.decDigits, dif_pos (by omega), if_pos h2]; rfl
    · rw [Go.Lib.decDigits, dif_neg (by omega), Go.Lib.decDigits, dif_pos (by omega), if_neg h2]; rfl
theorem digR_dec {n : Nat} (h : n ≤ 108) : digR (Go.Lib.decDigits n) = levR n := by
  rw [dec_d3 (by omega)]
  have h' : ∀ k : Fin 109, digR (d3 k.val) = levR k.val := by decide +kernel
  exact h' ⟨n, by omega⟩
def unitB : List UInt8 := [32, 100, 66]
/-- What Parse gives. -/
def parR (s : List UInt8) : Int × Int := if Go.Lib.hasSuffix s unitB = true then digR (s.take (s.length - 3)) else (0, 3)
theorem parR_dec {n : Nat} (h : n ≤ 108) : parR (Go.Lib.decDigits n ++ unitB) = levR n := by
  unfold parR
  have h1 : Go.Lib.hasSuffix (Go.Lib.decDigits n ++ unitB) unitB = true := by
    unfold Go.Lib.hasSuffix
    rw [List.isSuffixOf_iff_suffix]
    exact List.suffix_append _ _
  rw [if_pos h1]
  have e : (Go.Lib.decDigits n ++ unitB).length - 3 = (Go.Lib.decDigits n).length := by rw [List.length_append]; show _ + 3 - 3 = _; omega
  rw [e, List.take_left]
  exact digR_dec h
end Go.Proofs.YtaafmckdmeikjaaDoor
