/- Plain numbers of package power: the table of levels, and the decibels of a power. -/
import Derived.Test.YtaafmckdmeikjaaDoorProg
namespace Go.Proofs.YtaafmckdmeikjaaDoor

def tab (m : Nat) : Int := [1000, 1259, 1585, 1995, 2512, 3162, 3981, 5012, 6310, 7943].getD m 0
def tv (m k : Nat) : Int := tab m * 10 ^ k
def lev (d : Nat) : Int := tv (d % 10) (d / 10) / 1000
theorem tab_bound (m : Nat) : 0 ≤ tab m ∧ tab m ≤ 7943 := by
  unfold tab
  match m with
  | 0 => decide
  | 1 => decide
  | 2 => decide
  | 3 => decide
  | 4 => decide
  | 5 => decide
  | 6 => decide
  | 7 => decide
  | 8 => decide
  | 9 => decide
  | n + 10 => simp
theorem pow_bound : ∀ k : Nat, k ≤ 10 → (0 : Int) < 10 ^ k ∧ (10 : Int) ^ k ≤ 10000000000 := by
  intro k hk
  have h : k = 0 ∨ k = 1 ∨ k = 2 ∨ k = 3 ∨ k = 4 ∨ k = 5 ∨ k = 6 ∨ k = 7 ∨ k = 8 ∨ k = 9 ∨ k = 10 := by omega
  rcases h with rfl | rfl | rfl | rfl | rfl | rfl | rfl | rfl | rfl | rfl | rfl <;> decide
theorem tv_bound (m k : Nat) (hk : k ≤ 10) : 0 ≤ tv m k ∧ tv m k ≤ 79430000000000 := by
  obtain ⟨a1, a2⟩ := tab_bound m
  obtain ⟨b1, b2⟩ := pow_bound k hk
  unfold tv
  refine ⟨Int.mul_nonneg a1 (by omega), ?_⟩
  have h1 : tab m * 10 ^ k ≤ 7943 * 10 ^ k := Int.mul_le_mul_of_nonneg_right a2 (by omega)
  have h2 : (7943 : Int) * 10 ^ k ≤ 7943 * 10000000000 := Int.mul_le_mul_of_nonneg_left b2 (by omega)
  omega
theorem tv_succ (m k : Nat) : tv m k * 10 = tv m (k + 1) := by unfold tv; rw [Int.pow_succ, Int.mul_assoc]
theorem lev_bound (d : Nat) (hd : d ≤ 109) : 0 ≤ lev d ∧ lev d ≤ 79430000000 := by
  have := tv_bound (d % 10) (d / 10) (by omega)
  unfold lev; omega
theorem lev_step : ∀ d : Nat, d < 109 → lev d ≤ lev (d + 1) := by decide +kernel
theorem lev_strict : ∀ d : Nat, d < 109 → 6 ≤ d → lev d < lev (d + 1) := by decide +kernel
theorem lev_mono {a b : Nat} (hab : a ≤ b) (hb : b ≤ 109) : lev a ≤ lev b := by
  induction b with
  | zero => have : a = 0 := by omega
            subst this; exact Int.le_refl _
  | succ b ih =>
    by_cases h : a ≤ b
    · exact Int.le_trans (ih h (by omega)) (lev_step b (by omega))
    · have : a = b + 1 := by omega
      subst this; exact Int.le_refl _
theorem lev0 : lev 0 = 1 := by decide

/-- The greatest level not above p, among 0 .. k. -/
def decTo (p : Int) : Nat → Nat
  | 0 => 0
  | k + 1 => if lev (k + 1) ≤ p then k + 1 else decTo p k
def dec (p : Int) : Nat := decTo p 108
theorem decTo_unique {p : Int} {n : Nat} : ∀ k, n ≤ k → lev n ≤ p → (∀ m, n < m → m ≤ k → p < lev m) → decTo p k = n
  | 0, h, _, _ => by simp only [decTo]; omega
  | k + 1, h, h1, h2 => by
    simp only [decTo]
    by_cases e : n = k + 1
    · subst e; rw [if_pos h1]
    · rw [if_neg (by have := h2 (k + 1) (by omega) (by omega); omega)]
      exact decTo_unique k (by omega) h1 (fun m a b => h2 m a (by omega))
theorem dec_unique {p : Int} {n : Nat} (hn : n ≤ 108) (h1 : lev n ≤ p) (h2 : n = 108 ∨ p < lev (n + 1)) : dec p = n := by
  refine decTo_unique 108 hn h1 fun m a b => ?_
  rcases h2 with h | h
  · omega
  · have := lev_mono (a := n + 1) (b := m) (by omega) (by omega); omega
theorem decTo_spec {p : Int} (hp : 1 ≤ p) : ∀ k, decTo p k ≤ k ∧ lev (decTo p k) ≤ p ∧ ∀ m, decTo p k < m → m ≤ k → p < lev m
  | 0 => ⟨Nat.le_refl _, by simp only [decTo, lev0]; exact hp, fun m a b => by omega⟩
  | k + 1 => by
    obtain ⟨a, b, c⟩ := decTo_spec hp k
    simp only [decTo]
    by_cases h : lev (k + 1) ≤ p
    · rw [if_pos h]; exact ⟨Nat.le_refl _, h, fun m a b => by omega⟩
    · rw [if_neg h]
      refine ⟨by omega, b, fun m x y => ?_⟩
      by_cases e : m = k + 1
      · subst e; omega
      · exact c m x (by omega)
theorem dec_spec {p : Int} (hp : 1 ≤ p) : dec p ≤ 108 ∧ lev (dec p) ≤ p ∧ (dec p = 108 ∨ p < lev (dec p + 1)) := by
  obtain ⟨a, b, c⟩ := decTo_spec hp 108
  refine ⟨a, b, ?_⟩
  by_cases h : dec p = 108
  · exact Or.inl h
  · exact Or.inr (c _ (Nat.lt_succ_self _) (by unfold dec at h ⊢; omega))
/-- What sort.Search finds. -/
theorem search_dec {p : Int} (hp : 1 ≤ p) {n : Nat} (hn : n ≤ 109) (h1 : ∀ m, m < n → lev m ≤ p) (h2 : n = 109 ∨ p < lev n) : 1 ≤ n ∧ n - 1 = dec p := by
  have h0 : n ≠ 0 := by
    rintro rfl
    rcases h2 with h | h
    · omega
    · rw [lev0] at h; omega
  refine ⟨by omega, (dec_unique (by omega) (h1 _ (by omega)) ?_).symm⟩
  rcases h2 with h | h
  · left; omega
  · right; rw [show n - 1 + 1 = n by omega]; exact h

def isP (n : Int) : Bool := decide (0 ≤ n ∧ n ≤ 68719476736)
def isC (t n : Int) : Bool := decide (1000 ≤ t ∧ t ≤ 100000 ∧ 1 ≤ n ∧ n ≤ 68719476736)
theorem isP_t {n : Int} (h : isP n = true) : 0 ≤ n ∧ n ≤ 68719476736 := of_decide_eq_true h
theorem isP_f {n : Int} (h : isP n = false) : n < 0 ∨ 68719476736 < n := by have := of_decide_eq_false h; omega
theorem isC_t {t n : Int} (h : isC t n = true) : 1000 ≤ t ∧ t ≤ 100000 ∧ 1 ≤ n ∧ n ≤ 68719476736 := of_decide_eq_true h
theorem isC_f {t n : Int} (h : isC t n = false) : t < 1000 ∨ 100000 < t ∨ n < 1 ∨ 68719476736 < n := by have := of_decide_eq_false h; omega

/-- The answers of the package, each with its error's number. -/
def levR (n : Int) : Int × Int := if 0 ≤ n ∧ n ≤ 108 then (lev n.toNat, 0) else (0, 2)
theorem levR_ok {d : Nat} (h : d ≤ 108) : levR (d : Int) = (lev d, 0) := by unfold levR; rw [if_pos (by omega)]; rfl
theorem levR_no {n : Int} (h : n < 0 ∨ 108 < n) : levR n = (0, 2) := by unfold levR; rw [if_neg (by omega)]
def decR (p : Int) : Int × Int := if 1 ≤ p ∧ p ≤ 68719476736 then ((dec p : Int), 0) else (0, 2)
theorem decR_ok {p : Int} (h : 1 ≤ p ∧ p ≤ 68719476736) : decR p = ((dec p : Int), 0) := by unfold decR; rw [if_pos h]
theorem decR_no {p : Int} (h : p < 1 ∨ 68719476736 < p) : decR p = (0, 2) := by unfold decR; rw [if_neg (by omega)]
def sclR (p f : Int) : Int × Int := if (0 ≤ p ∧ p ≤ 68719476736) ∧ 0 ≤ f ∧ f ≤ 1000 then (p * f / 1000, 0) else (0, 2)
def marR (s t n : Int) : Int × Int := if isP s = true ∧ isC t n = true then (max (1000 * s / t - n) (-1), 0) else (0, 2)
def lstR (t n i : Int) : Int × Int := if isC t n = true ∧ 0 ≤ i ∧ i ≤ 4398046511104 then (if 68719476736 < (t * (n + i) + 999) / 1000 then (0, 8) else ((t * (n + i) + 999) / 1000, 0)) else (0, 2)
def sumR (l : List Int) : Int × Int := if 64 < l.length then (0, 8) else if l.all isP = true then (l.sum, 0) else (0, 2)
def rcvR (s t n : Int) (l : List Int) : Bool × Int := if isP s = true ∧ isC t n = true then (if (sumR l).2 = 0 then (decide (t * (n + (sumR l).1) ≤ 1000 * s), 0) else (false, (sumR l).2)) else (false, 2)
theorem mul_bound {a b A B : Int} (h0 : 0 ≤ a) (h1 : a ≤ A) (h2 : 0 ≤ b) (h3 : b ≤ B) : 0 ≤ a * b ∧ a * b ≤ A * B :=
  ⟨Int.mul_nonneg h0 h2, Int.mul_le_mul h1 h3 h2 (by omega)⟩
end Go.Proofs.YtaafmckdmeikjaaDoor
