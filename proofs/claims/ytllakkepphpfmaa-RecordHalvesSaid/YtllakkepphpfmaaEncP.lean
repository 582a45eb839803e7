/- The bytes of a record, plain; what the checks give. -/
import Derived.Test.YtllakkepphpfmaaPure2
import Derived.Test.YtllakkepphpfmaaVar
namespace Go.Proofs.Ytllakkepphpfmaa
namespace Rc

def vars (l : List Int) : List UInt8 := l.flatMap fun z => varN z.toNat
def attI (at_ : Int) (a : Att) : List Int := [a.s - at_, a.f, a.cs, a.co, a.cf, a.ct, a.cl, a.o]
def dlvI (at_ : Int) (d : Dlv) : List Int := [d.sl - at_, d.fl, d.fr]
def encA : Int → List Att → List UInt8
  | _, [] => []
  | at_, a :: l => vars (attI at_ a) ++ encA a.s l
def encD : Int → List Dlv → List UInt8
  | _, [] => []
  | at_, d :: l => vars (dlvI at_ d) ++ encD d.sl l
def encR (r : Rec) : List UInt8 := vars [r.slots, (r.al.length : Int)] ++ (encA 0 r.al ++ (vars [(r.dl.length : Int)] ++ encD 0 r.dl))

/-- the slot of the attempt before number k; 0 if there is none -/
def lastA (l : List Att) (k : Nat) : Int := if k = 0 then 0 else ((l[k - 1]?).map Att.s).getD 0
def lastD (l : List Dlv) (k : Nat) : Int := if k = 0 then 0 else ((l[k - 1]?).map Dlv.sl).getD 0

theorem cmpA_le {p a : Att} (h : ¬ 0 ≤ cmpA p a) : p.s ≤ a.s := by
  unfold cmpA orI cmpI at h
  by_cases h1 : p.s < a.s
  · omega
  · by_cases h2 : a.s < p.s
    · simp [h1, h2] at h
    · omega
theorem cmpD_le {p a : Dlv} (h : ¬ 0 ≤ cmpD p a) : p.sl ≤ a.sl := by
  unfold cmpD orI cmpI at h
  by_cases h1 : p.sl < a.sl
  · omega
  · by_cases h2 : a.sl < p.sl
    · simp [h1, h2] at h
    · omega

theorem attsGo_all (slots : Int) : ∀ (l : List Att) (p : Option Att) (S : List Int) (at_ : Int), attsGo slots p S at_ l = true →
    ∀ k a, l[k]? = some a → attB a slots = true ∧ (match (if k = 0 then p else l[k - 1]?) with | some q => q.s ≤ a.s | none => True)
  | [], _, _, _, _, k, a, h => by simp at h
  | x :: l, p, S, at_, hg, k, a, hk => by
    simp only [attsGo] at hg
    by_cases hb : (!attB x slots || prevBad p x) = true
    · rw [if_pos hb] at hg; cases hg
    · rw [if_neg hb] at hg
      simp only [Bool.or_eq_true, Bool.not_eq_true', not_or, Bool.not_eq_false, Bool.not_eq_true] at hb
      have hrest : ∃ S' at', attsGo slots (some x) S' at' l = true := by
        by_cases hs : x.s = at_
        · rw [if_pos hs] at hg
          by_cases hin : x.cf ∈ S
          · rw [if_pos hin] at hg; cases hg
          · rw [if_neg hin] at hg; exact ⟨_, _, hg⟩
        · rw [if_neg hs] at hg; exact ⟨_, _, hg⟩
      obtain ⟨S', at', hg'⟩ := hrest
      match k with
      | 0 =>
        simp at hk
        subst hk
        refine ⟨hb.1, ?_⟩
        simp only [if_true]
        cases p with
        | none => trivial
        | some q => exact cmpA_le (by simpa [prevBad] using hb.2)
      | k + 1 =>
        have hk' : l[k]? = some a := by simpa using hk
        obtain ⟨h1, h2⟩ := attsGo_all slots l (some x) S' at' hg' k a hk'
        refine ⟨h1, ?_⟩
        have e : (if k + 1 = 0 then p else (x :: l)[k + 1 - 1]?) = (if k = 0 then some x else l[k - 1]?) := by
          rw [if_neg (by omega)]
          cases k with
          | zero => simp
          | succ k => simp
        rw [e]
        exact h2

theorem atts_all {l : List Att} {slots : Int} (h : attsB l slots = true) {k : Nat} {a : Att} (hk : l[k]? = some a) : attB a slots = true ∧ lastA l k ≤ a.s := by
  obtain ⟨h1, h2⟩ := attsGo_all slots l none [] (-1) h k a hk
  refine ⟨h1, ?_⟩
  unfold lastA
  by_cases h0 : k = 0
  · simp [h0]
    simp [attB, belowB] at h1
    omega
  · simp only [h0, if_false] at h2 ⊢
    cases hp : l[k - 1]? with
    | none =>
      simp [attB, belowB] at h1
      simp
      omega
    | some q => rw [hp] at h2; simpa using h2

theorem dlvsGo_all (slots : Int) : ∀ (l : List Dlv) (p : Option Dlv), dlvsGo slots p l = true →
    ∀ k a, l[k]? = some a → dlvB a slots = true ∧ (match (if k = 0 then p else l[k - 1]?) with | some q => q.sl ≤ a.sl | none => True)
  | [], _, _, k, a, h => by simp at h
  | x :: l, p, hg, k, a, hk => by
    simp only [dlvsGo] at hg
    by_cases hb : dlvB x slots = false
    · rw [if_pos hb] at hg; cases hg
    · rw [if_neg hb] at hg
      by_cases hp : prevBadD p x = true
      · rw [if_pos hp] at hg; cases hg
      · rw [if_neg hp] at hg
        match k with
        | 0 =>
          simp at hk
          subst hk
          refine ⟨by simpa using hb, ?_⟩
          simp only [if_true]
          cases p with
          | none => trivial
          | some q => exact cmpD_le (by simpa [prevBadD] using hp)
        | k + 1 =>
          have hk' : l[k]? = some a := by simpa using hk
          obtain ⟨h1, h2⟩ := dlvsGo_all slots l (some x) hg k a hk'
          refine ⟨h1, ?_⟩
          have e : (if k + 1 = 0 then p else (x :: l)[k + 1 - 1]?) = (if k = 0 then some x else l[k - 1]?) := by
            rw [if_neg (by omega)]
            cases k with
            | zero => simp
            | succ k => simp
          rw [e]
          exact h2

theorem dlvs_all {l : List Dlv} {slots : Int} (h : dlvsB l slots = true) {k : Nat} {a : Dlv} (hk : l[k]? = some a) : dlvB a slots = true ∧ lastD l k ≤ a.sl := by
  obtain ⟨h1, h2⟩ := dlvsGo_all slots l none h k a hk
  refine ⟨h1, ?_⟩
  unfold lastD
  by_cases h0 : k = 0
  · simp [h0]
    simp [dlvB, belowB] at h1
    omega
  · simp only [h0, if_false] at h2 ⊢
    cases hp : l[k - 1]? with
    | none =>
      simp [dlvB, belowB] at h1
      simp
      omega
    | some q => rw [hp] at h2; simpa using h2

theorem lastA_nonneg {l : List Att} {slots : Int} (h : attsB l slots = true) (k : Nat) : 0 ≤ lastA l k := by
  unfold lastA
  by_cases h0 : k = 0
  · simp [h0]
  · simp only [h0, if_false]
    cases hp : l[k - 1]? with
    | none => simp
    | some q =>
      have := (atts_all h hp).1
      simp [attB, belowB] at this
      simp
      omega
theorem lastA_succ {l : List Att} {k : Nat} {a : Att} (h : l[k]? = some a) : lastA l (k + 1) = a.s := by
  unfold lastA
  rw [if_neg (by omega), show k + 1 - 1 = k from rfl, h]
  rfl
theorem lastD_nonneg {l : List Dlv} {slots : Int} (h : dlvsB l slots = true) (k : Nat) : 0 ≤ lastD l k := by
  unfold lastD
  by_cases h0 : k = 0
  · simp [h0]
  · simp only [h0, if_false]
    cases hp : l[k - 1]? with
    | none => simp
    | some q =>
      have := (dlvs_all h hp).1
      simp [dlvB, belowB] at this
      simp
      omega
theorem lastD_succ {l : List Dlv} {k : Nat} {a : Dlv} (h : l[k]? = some a) : lastD l (k + 1) = a.sl := by
  unfold lastD
  rw [if_neg (by omega), show k + 1 - 1 = k from rfl, h]
  rfl
/-- the ranges of an attempt in order -/
theorem attB_ranges {a : Att} {slots : Int} (h : attB a slots = true) : (0 ≤ a.s ∧ a.s < slots) ∧ (0 ≤ a.f ∧ a.f < 1048576) ∧ (0 ≤ a.cs ∧ a.cs < 512) ∧ (0 ≤ a.co ∧ a.co < 16) ∧ (0 ≤ a.cf ∧ a.cf < 32) ∧ (0 ≤ a.ct ∧ a.ct < 32) ∧ (0 ≤ a.cl ∧ a.cl < 256) ∧ (1 ≤ a.o ∧ a.o ≤ 4) := by
  simp [attB, belowB] at h
  omega
theorem dlvB_ranges {d : Dlv} {slots : Int} (h : dlvB d slots = true) : (0 ≤ d.sl ∧ d.sl < slots) ∧ (0 ≤ d.fl ∧ d.fl < 256) ∧ (0 ≤ d.fr ∧ d.fr < 1048576) := by
  simp [dlvB, belowB] at h
  omega
theorem vars_length (l : List Int) : (vars l).length ≤ 10 * l.length := by
  induction l with
  | nil => simp [vars]
  | cons z l ih =>
    have := varN_length z.toNat
    simp only [vars, List.flatMap_cons, List.length_append, List.length_cons] at ih ⊢
    omega
theorem vars_append (l m : List Int) : vars (l ++ m) = vars l ++ vars m := by simp [vars]
theorem good_parts {r : Rec} (h : good r = true) : 0 ≤ r.slots ∧ r.slots ≤ 4096 ∧ r.al.length ≤ 65536 ∧ r.dl.length ≤ 65536 ∧ attsB r.al r.slots = true ∧ dlvsB r.dl r.slots = true := by
  simp [good] at h; exact h
end Rc
end Go.Proofs.Ytllakkepphpfmaa
