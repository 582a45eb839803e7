/- The runs of losses, plain: what they are in the list of a link's attempts. -/
import Derived.Test.YtllakkepphpfmaaLoss
namespace Go.Proofs.Ytllakkepphpfmaa
open Rc
namespace Rc

def nonA (a : Att) : Bool := !(a.o == 1)
def linkB (fr to_ : Int) (a : Att) : Bool := a.cf == fr && a.ct == to_
/-- The runs of those that were not acknowledged. -/
def runsOf : List Att → List (List Int)
  | [] => []
  | a :: l => if a.o = 1 then runsOf l else (a.s :: (l.takeWhile nonA).map Att.s) :: runsOf (l.dropWhile nonA)
termination_by l => l.length
decreasing_by
  · simp
  · have := (List.dropWhile_sublist (l := l) nonA).length_le
    simp; omega

theorem runsOf_nil : runsOf [] = [] := by rw [runsOf]
theorem runsOf_acked {a : Att} {l : List Att} (h : a.o = 1) : runsOf (a :: l) = runsOf l := by rw [runsOf, if_pos h]
theorem runsOf_lost {a : Att} {l : List Att} (h : ¬ a.o = 1) : runsOf (a :: l) = (a.s :: (l.takeWhile nonA).map Att.s) :: runsOf (l.dropWhile nonA) := by rw [runsOf, if_neg h]

/-- Losses over the link's attempts alone. -/
def lossL : List Att → List Int → List (List Int) → List (List Int)
  | [], run, out => flush run out
  | a :: l, run, out => if a.o = 1 then lossL l [] (flush run out) else lossL l (run ++ [a.s]) out

theorem lossGo_lossL (fr to_ : Int) : ∀ (F : List Att) (run : List Int) (out : List (List Int)), lossGo fr to_ F run out = lossL (F.filter (linkB fr to_)) run out
  | [], run, out => rfl
  | a :: F, run, out => by
    simp only [lossGo]
    by_cases h : ¬ a.cf = fr ∨ ¬ a.ct = to_
    · have hb : linkB fr to_ a = false := by
        unfold linkB
        rw [Bool.and_eq_false_iff]
        rcases h with h | h
        · exact .inl (by simpa using h)
        · exact .inr (by simpa using h)
      rw [if_pos h, lossGo_lossL fr to_ F, List.filter_cons, hb]
      simp
    · have hb : linkB fr to_ a = true := by
        unfold linkB
        have h1 : a.cf = fr := Classical.byContradiction fun hh => h (.inl hh)
        have h2 : a.ct = to_ := Classical.byContradiction fun hh => h (.inr hh)
        simp [h1, h2]
      rw [if_neg h, List.filter_cons, hb, if_pos rfl]
      simp only [lossL]
      rw [lossGo_lossL fr to_ F, lossGo_lossL fr to_ F]

theorem lossL_runs : ∀ (l : List Att) (run : List Int) (out : List (List Int)), lossL l run out = if run.length = 0 then out ++ runsOf l else out ++ (run ++ (l.takeWhile nonA).map Att.s) :: runsOf (l.dropWhile nonA)
  | [], run, out => by
    simp only [lossL, flush, runsOf_nil, List.append_nil, List.takeWhile_nil, List.map_nil, List.dropWhile_nil]
  | a :: l, run, out => by
    simp only [lossL]
    by_cases ho : a.o = 1
    · have hn : nonA a = false := by simp [nonA, ho]
      rw [if_pos ho, lossL_runs l]
      simp only [List.length_nil, if_true, flush, runsOf_acked ho, List.takeWhile_cons, List.dropWhile_cons, hn, Bool.false_eq_true, if_false, List.map_nil, List.append_nil]
      split
      · rfl
      · simp
    · have hn : nonA a = true := by simp [nonA, ho]
      rw [if_neg ho, lossL_runs l, if_neg (by simp)]
      simp only [runsOf_lost ho, List.takeWhile_cons, List.dropWhile_cons, hn, if_true, List.map_cons]
      by_cases h0 : run.length = 0
      · have : run = [] := List.eq_nil_of_length_eq_zero h0
        subst this
        simp
      · rw [if_neg h0]
        simp

theorem lossP_runs (al : List Att) (flow frame fr to_ : Int) : lossP al flow frame fr to_ = runsOf ((ofFrame al flow frame).filter (linkB fr to_)) := by
  unfold lossP
  rw [lossGo_lossL, lossL_runs]
  simp

theorem mem_takeWhile_ {p : Att → Bool} : ∀ {l : List Att} {a : Att}, a ∈ l.takeWhile p → p a = true
  | [], _, h => by simp at h
  | x :: l, a, h => by
    rw [List.takeWhile_cons] at h
    split at h
    · rename_i hx
      rcases List.mem_cons.1 h with rfl | h
      · exact hx
      · exact mem_takeWhile_ h
    · cases h
theorem runsOf_len : ∀ (n : Nat) (l : List Att), l.length ≤ n → (runsOf l).length ≤ l.length
  | _, [], _ => by simp [runsOf_nil]
  | 0, a :: l, h => by simp at h
  | n + 1, a :: l, h => by
    by_cases ho : a.o = 1
    · rw [runsOf_acked ho]
      have := runsOf_len n l (by simpa using h)
      simp; omega
    · rw [runsOf_lost ho]
      have h1 := (List.dropWhile_sublist (l := l) nonA).length_le
      have := runsOf_len n (l.dropWhile nonA) (by simp at h; omega)
      simp; omega

/-! ### what the law's loops meet -/
/-- Behind acknowledged ones the runs are the same. -/
theorem runs_skip {l : List Att} {k : Nat} {a : Att} (h : l[k]? = some a) (ho : a.o = 1) : runsOf (l.drop k) = runsOf (l.drop (k + 1)) := by
  rw [drop_of_get h, runsOf_acked ho]
/-- At one that was lost the first run begins. -/
theorem runs_at {l : List Att} {k : Nat} {run : List Int} {rest : List (List Int)} (h : runsOf (l.drop k) = run :: rest) (hno : ∀ a, l[k]? = some a → ¬ a.o = 1) :
    0 < run.length ∧ k + run.length ≤ l.length ∧ (∀ j s, run[j]? = some s → ∃ a, l[k + j]? = some a ∧ a.s = s ∧ ¬ a.o = 1) ∧ runsOf (l.drop (k + run.length)) = rest ∧ (∀ a, l[k + run.length]? = some a → a.o = 1) := by
  cases hk : l[k]? with
  | none =>
    have : l.drop k = [] := List.drop_of_length_le (by
      rcases Nat.lt_or_ge k l.length with h1 | h1
      · rw [List.getElem?_eq_getElem h1] at hk; cases hk
      · exact h1)
    rw [this, runsOf_nil] at h
    cases h
  | some a =>
    have ho := hno a hk
    have hkl : k < l.length := (List.getElem?_eq_some_iff.1 hk).1
    rw [drop_of_get hk, runsOf_lost ho] at h
    injection h with h1 h2
    have hsp : l.drop (k + 1) = (l.drop (k + 1)).takeWhile nonA ++ (l.drop (k + 1)).dropWhile nonA := List.takeWhile_append_dropWhile.symm
    generalize htw : (l.drop (k + 1)).takeWhile nonA = tw at *
    generalize hdw : (l.drop (k + 1)).dropWhile nonA = dw at *
    have hlen : run.length = tw.length + 1 := by rw [← h1]; simp
    have hdl : l.drop (k + run.length) = dw := by
      rw [hlen, show k + (tw.length + 1) = (k + 1) + tw.length by omega, ← List.drop_drop, hsp]
      simp
    have hll : l.length - (k + 1) = tw.length + dw.length := by
      have := congrArg List.length hsp
      simpa using this
    refine ⟨by omega, by omega, fun j s hj => ?_, by rw [hdl]; exact h2, fun b hb => ?_⟩
    · rw [← h1] at hj
      cases j with
      | zero =>
        simp at hj
        exact ⟨a, by simpa using hk, hj, ho⟩
      | succ j =>
        rw [List.getElem?_cons_succ, List.getElem?_map] at hj
        cases hb : tw[j]? with
        | none => rw [hb] at hj; cases hj
        | some b =>
          rw [hb] at hj
          simp at hj
          have hjl : j < tw.length := (List.getElem?_eq_some_iff.1 hb).1
          refine ⟨b, ?_, hj, ?_⟩
          · have : (l.drop (k + 1))[j]? = some b := by rw [hsp, List.getElem?_append_left hjl, hb]
            rw [List.getElem?_drop] at this
            rw [show k + (j + 1) = k + 1 + j by omega]
            exact this
          · have hm : b ∈ (l.drop (k + 1)).takeWhile nonA := by rw [htw]; exact List.mem_of_getElem? hb
            have := mem_takeWhile_ hm
            simpa [nonA] using this
    · have hd0 : dw[0]? = some b := by rw [← hdl, List.getElem?_drop]; simpa using hb
      cases hdc : dw with
      | nil => rw [hdc] at hd0; simp at hd0
      | cons c dw' =>
        have : nonA c = false := by
          have := List.head?_dropWhile_not nonA (l.drop (k + 1))
          rw [hdw, hdc] at this
          simpa using this
        rw [hdc] at hd0
        simp at hd0
        subst hd0
        simpa [nonA] using this
theorem runs_find {l : List Att} {run : List Int} {rest : List (List Int)} : ∀ (n k : Nat), l.length - k ≤ n → runsOf (l.drop k) = run :: rest → ∃ j, k ≤ j ∧ j < l.length ∧ (∀ i a, k ≤ i → i < j → l[i]? = some a → a.o = 1) ∧ (∀ a, l[j]? = some a → ¬ a.o = 1) ∧ runsOf (l.drop j) = run :: rest
  | 0, k, hn, h => by
    rw [List.drop_of_length_le (by omega), runsOf_nil] at h
    cases h
  | n + 1, k, hn, h => by
    rcases Nat.lt_or_ge k l.length with hk | hk
    · obtain ⟨a, ha⟩ := get_of_lt hk
      by_cases ho : a.o = 1
      · rw [runs_skip ha ho] at h
        obtain ⟨j, h1, h2, h3, h4, h5⟩ := runs_find n (k + 1) (by omega) h
        refine ⟨j, by omega, h2, fun i b hi hij hb => ?_, h4, h5⟩
        by_cases hik : i = k
        · subst hik
          rw [ha] at hb
          injection hb with hb
          subst hb
          exact ho
        · exact h3 i b (by omega) hij hb
      · exact ⟨k, Nat.le_refl _, hk, fun i b hi hij => by omega, fun b hb => by rw [ha] at hb; injection hb with hb; subst hb; exact ho, h⟩
    · rw [List.drop_of_length_le hk, runsOf_nil] at h
      cases h
theorem runs_end {l : List Att} : ∀ {k : Nat}, runsOf (l.drop k) = [] → ∀ j a, k ≤ j → l[j]? = some a → a.o = 1 := by
  intro k h j a hkj hj
  induction hn : l.length - k generalizing k with
  | zero =>
    have := (List.getElem?_eq_some_iff.1 hj).1
    omega
  | succ n ih =>
    obtain ⟨b, hb⟩ := get_of_lt (l := l) (k := k) (by omega)
    rw [drop_of_get hb] at h
    by_cases ho : b.o = 1
    · rw [runsOf_acked ho] at h
      by_cases hjk : j = k
      · subst hjk
        rw [hb] at hj
        injection hj with hj
        subst hj
        exact ho
      · exact ih h (by omega) (by omega)
    · rw [runsOf_lost ho] at h
      cases h
end Rc
end Go.Proofs.Ytllakkepphpfmaa
