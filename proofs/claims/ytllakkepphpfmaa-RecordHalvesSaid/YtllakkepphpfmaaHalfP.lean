/- Plain law of RecordHalves: the two halves of a record are the record. -/
import Derived.Test.YtllakkepphpfmaaLask
import Derived.Test.YtllakkepphpfmaaJoin
import Derived.Test.YtllakkepphpfmaaDel
namespace Go.Proofs.Ytllakkepphpfmaa
open Go.RowKit
open Rc

theorem cmpA_le {p a : Att} (h : cmpA p a < 0) : p.s ≤ a.s := by
  rcases Int.lt_or_le a.s p.s with h1 | h1
  · exfalso
    have h2 : cmpI p.s a.s = 1 := by unfold cmpI; rw [if_neg (by omega), if_pos h1]
    simp only [cmpA, orI, h2] at h
    simp at h
  · exact h1
theorem cmpD_le {p a : Dlv} (h : cmpD p a < 0) : p.sl ≤ a.sl := by
  rcases Int.lt_or_le a.sl p.sl with h1 | h1
  · exfalso
    have h2 : cmpI p.sl a.sl = 1 := by unfold cmpI; rw [if_neg (by omega), if_pos h1]
    simp only [cmpD, orI, h2] at h
    simp at h
  · exact h1
/-- One step of the walk over attempts. -/
theorem attsGo_cons {slots : Int} {p : Option Att} {S : List Int} {at_ : Int} {a : Att} {l : List Att} :
    attsGo slots p S at_ (a :: l) = true ↔ attB a slots = true ∧ prevBad p a = false ∧ ((a.s = at_ ∧ a.cf ∉ S ∧ attsGo slots (some a) (a.cf :: S) at_ l = true) ∨ (a.s ≠ at_ ∧ attsGo slots (some a) [a.cf] a.s l = true)) := by
  rw [attsGo]
  cases h1 : attB a slots <;> cases h2 : prevBad p a <;> simp
  by_cases h3 : a.s = at_
  · by_cases h4 : a.cf ∈ S <;> simp [h3, h4]
  · simp [h3]
theorem dlvsGo_cons {slots : Int} {p : Option Dlv} {a : Dlv} {l : List Dlv} :
    dlvsGo slots p (a :: l) = true ↔ dlvB a slots = true ∧ prevBadD p a = false ∧ dlvsGo slots (some a) l = true := by
  rw [dlvsGo]
  cases h1 : dlvB a slots <;> cases h2 : prevBadD p a <;> simp
theorem attsGo_le {slots : Int} : ∀ (l : List Att) (q : Att) (S : List Int) (at_ : Int), attsGo slots (some q) S at_ l = true → ∀ x ∈ l, q.s ≤ x.s
  | [], _, _, _, _, x, hx => by cases hx
  | a :: l, q, S, at_, h, x, hx => by
    obtain ⟨_, h2, h3⟩ := attsGo_cons.1 h
    have h4 : q.s ≤ a.s := cmpA_le (by simpa [prevBad] using h2)
    rcases List.mem_cons.1 hx with rfl | hx
    · exact h4
    · rcases h3 with ⟨_, _, h5⟩ | ⟨_, h5⟩
      · exact Int.le_trans h4 (attsGo_le l a _ _ h5 x hx)
      · exact Int.le_trans h4 (attsGo_le l a _ _ h5 x hx)
theorem dlvsGo_le {slots : Int} : ∀ (l : List Dlv) (q : Dlv), dlvsGo slots (some q) l = true → ∀ x ∈ l, q.sl ≤ x.sl
  | [], _, _, x, hx => by cases hx
  | a :: l, q, h, x, hx => by
    obtain ⟨_, h2, h3⟩ := dlvsGo_cons.1 h
    have h4 : q.sl ≤ a.sl := cmpD_le (by simpa [prevBadD] using h2)
    rcases List.mem_cons.1 hx with rfl | hx
    · exact h4
    · exact Int.le_trans h4 (dlvsGo_le l a h3 x hx)
theorem attsGo_sub {slots : Int} : ∀ (l : List Att) (p : Option Att) (S S' : List Int) (at_ : Int), (∀ x ∈ S', x ∈ S) → attsGo slots p S at_ l = true → attsGo slots p S' at_ l = true
  | [], _, _, _, _, _, _ => rfl
  | a :: l, p, S, S', at_, hs, h => by
    obtain ⟨h1, h2, h3⟩ := attsGo_cons.1 h
    refine attsGo_cons.2 ⟨h1, h2, ?_⟩
    rcases h3 with ⟨h4, h5, h6⟩ | h4
    · refine .inl ⟨h4, fun hx => h5 (hs _ hx), attsGo_sub l _ _ _ _ ?_ h6⟩
      intro x hx
      rcases List.mem_cons.1 hx with rfl | hx
      · simp
      · exact List.mem_cons_of_mem _ (hs _ hx)
    · exact .inr h4
theorem attB_pos {a : Att} {slots : Int} (h : attB a slots = true) : 0 ≤ a.s := by
  simp only [attB, belowB, Bool.and_eq_true, decide_eq_true_eq] at h
  exact h.1.1
theorem attB_cut {a : Att} {slots n : Int} (h : attB a slots = true) (hn : a.s < n) : attB a n = true := by
  simp only [attB, Bool.and_eq_true] at h ⊢
  refine ⟨?_, h.2⟩
  have h1 := h.1
  simp only [belowB, Bool.and_eq_true, decide_eq_true_eq] at h1 ⊢
  exact ⟨h1.1, hn⟩
theorem dlvB_cut {a : Dlv} {slots n : Int} (h : dlvB a slots = true) (hn : a.sl < n) : dlvB a n = true := by
  simp only [dlvB, Bool.and_eq_true] at h ⊢
  refine ⟨h.1, h.2.1, ?_⟩
  have h1 := h.2.2
  simp only [belowB, Bool.and_eq_true, decide_eq_true_eq] at h1 ⊢
  exact ⟨h1.1, hn⟩
theorem cutA_none {l : List Att} {n : Int} (h : ∀ x ∈ l, n ≤ x.s) : cutA l n = [] ∧ keepA n l = l := by
  unfold cutA keepA
  refine ⟨List.filter_eq_nil_iff.2 fun x hx => ?_, List.filter_eq_self.2 fun x hx => ?_⟩
  · have := h x hx; simp; omega
  · have := h x hx; simp; omega
theorem cutD_none {l : List Dlv} {n : Int} (h : ∀ x ∈ l, n ≤ x.sl) : cutD l n = [] ∧ keepD n l = l := by
  unfold cutD keepD
  refine ⟨List.filter_eq_nil_iff.2 fun x hx => ?_, List.filter_eq_self.2 fun x hx => ?_⟩
  · have := h x hx; simp; omega
  · have := h x hx; simp; omega
theorem halfA {slots n : Int} : ∀ (l : List Att) (p : Option Att) (S : List Int) (at_ : Int), attsGo slots p S at_ l = true →
    attsGo n p S at_ (cutA l n) = true ∧ cutA l n ++ keepA n l = l ∧ attsGo slots none [] (-1) (keepA n l) = true
  | [], _, _, _, _ => ⟨rfl, rfl, rfl⟩
  | a :: l, p, S, at_, h => by
    obtain ⟨h1, h2, h3⟩ := attsGo_cons.1 h
    by_cases hs : a.s < n
    · have c1 : cutA (a :: l) n = a :: cutA l n := by unfold cutA; rw [List.filter_cons_of_pos (by simpa using hs)]
      have c2 : keepA n (a :: l) = keepA n l := by unfold keepA; rw [List.filter_cons_of_neg (by simpa using hs)]
      rw [c1, c2]
      rcases h3 with ⟨h4, h5, h6⟩ | ⟨h4, h6⟩
      · obtain ⟨i1, i2, i3⟩ := halfA (n := n) l _ _ _ h6
        exact ⟨attsGo_cons.2 ⟨attB_cut h1 hs, h2, .inl ⟨h4, h5, i1⟩⟩, by rw [List.cons_append, i2], i3⟩
      · obtain ⟨i1, i2, i3⟩ := halfA (n := n) l _ _ _ h6
        exact ⟨attsGo_cons.2 ⟨attB_cut h1 hs, h2, .inr ⟨h4, i1⟩⟩, by rw [List.cons_append, i2], i3⟩
    · have hall : ∀ x ∈ a :: l, n ≤ x.s := by
        intro x hx
        rcases List.mem_cons.1 hx with rfl | hx
        · omega
        · rcases h3 with ⟨_, _, h6⟩ | ⟨_, h6⟩
          · have := attsGo_le l a _ _ h6 x hx; omega
          · have := attsGo_le l a _ _ h6 x hx; omega
      obtain ⟨c1, c2⟩ := cutA_none hall
      rw [c1, c2]
      refine ⟨rfl, rfl, attsGo_cons.2 ⟨h1, rfl, .inr ⟨?_, ?_⟩⟩⟩
      · have := attB_pos h1; omega
      · rcases h3 with ⟨h4, _, h6⟩ | ⟨_, h6⟩
        · rw [h4]
          exact attsGo_sub l _ _ _ _ (by intro x hx; simp at hx; simp [hx]) h6
        · exact h6
theorem halfD {slots n : Int} : ∀ (l : List Dlv) (p : Option Dlv), dlvsGo slots p l = true →
    dlvsGo n p (cutD l n) = true ∧ cutD l n ++ keepD n l = l ∧ dlvsGo slots none (keepD n l) = true
  | [], _, _ => ⟨rfl, rfl, rfl⟩
  | a :: l, p, h => by
    obtain ⟨h1, h2, h3⟩ := dlvsGo_cons.1 h
    by_cases hs : a.sl < n
    · have c1 : cutD (a :: l) n = a :: cutD l n := by unfold cutD; rw [List.filter_cons_of_pos (by simpa using hs)]
      have c2 : keepD n (a :: l) = keepD n l := by unfold keepD; rw [List.filter_cons_of_neg (by simpa using hs)]
      rw [c1, c2]
      obtain ⟨i1, i2, i3⟩ := halfD (n := n) l _ h3
      exact ⟨dlvsGo_cons.2 ⟨dlvB_cut h1 hs, h2, i1⟩, by rw [List.cons_append, i2], i3⟩
    · have hall : ∀ x ∈ a :: l, n ≤ x.sl := by
        intro x hx
        rcases List.mem_cons.1 hx with rfl | hx
        · omega
        · have := dlvsGo_le l a h3 x hx; omega
      obtain ⟨c1, c2⟩ := cutD_none hall
      rw [c1, c2]
      exact ⟨rfl, rfl, dlvsGo_cons.2 ⟨h1, rfl, h3⟩⟩

def cntO (k : Int) (al : List Att) : Int := ((al.filter fun a => decide (a.o = k)).length : Int)
theorem cntO_append (k : Int) (a b : List Att) : cntO k (a ++ b) = cntO k a + cntO k b := by
  unfold cntO; rw [List.filter_append, List.length_append]; omega
theorem cntO_cons (k : Int) (a : Att) (l : List Att) : cntO k (a :: l) = (if a.o = k then 1 else 0) + cntO k l := by
  unfold cntO
  by_cases h : a.o = k
  · rw [List.filter_cons_of_pos (by simpa using h), if_pos h, List.length_cons]; omega
  · rw [List.filter_cons_of_neg (by simpa using h), if_neg h]; omega
theorem foldl_bump : ∀ (al : List Att) (c0 c1 c2 c3 c4 : Int), al.foldl bump [c0, c1, c2, c3, c4] = [c0, c1 + cntO 1 al, c2 + cntO 2 al, c3 + cntO 3 al, c4 + cntO 4 al]
  | [], c0, c1, c2, c3, c4 => by simp [cntO]
  | a :: al, c0, c1, c2, c3, c4 => by
    rw [List.foldl_cons]
    by_cases h : 1 ≤ a.o ∧ a.o ≤ 4
    · have h5 : a.o = 1 ∨ a.o = 2 ∨ a.o = 3 ∨ a.o = 4 := by omega
      rcases h5 with h5 | h5 | h5 | h5 <;> (simp only [bump, h5]; simp [foldl_bump al, cntO_cons, h5]; try omega)
    · have e : bump [c0, c1, c2, c3, c4] a = [c0, c1, c2, c3, c4] := by unfold bump; rw [if_neg h]
      rw [e, foldl_bump al]
      simp only [cntO_cons]
      rw [if_neg (by omega), if_neg (by omega), if_neg (by omega), if_neg (by omega)]
      simp
theorem cntO_le (k : Int) (l : List Att) : 0 ≤ cntO k l ∧ cntO k l ≤ l.length := by
  unfold cntO
  have := List.length_filter_le (fun a : Att => decide (a.o = k)) l
  omega
theorem counts_add (a b : List Att) (m k : Nat) (ha : a.length ≤ 1000000) (hb : b.length ≤ 1000000) (hm : m ≤ 1000000) (hk : k ≤ 1000000) : ∃ x0 x1 x2 x3 x4 y0 y1 y2 y3 y4 : Int, countsP a m = [x0, x1, x2, x3, x4] ∧ countsP b k = [y0, y1, y2, y3, y4] ∧ countsP (a ++ b) (m + k) = [x0 + y0, x1 + y1, x2 + y2, x3 + y3, x4 + y4] ∧
    ∀ i, i < 5 → ∃ x y, [x0, x1, x2, x3, x4][i]? = some x ∧ [y0, y1, y2, y3, y4][i]? = some y ∧ [x0 + y0, x1 + y1, x2 + y2, x3 + y3, x4 + y4][i]? = some (x + y) ∧ 0 ≤ x ∧ x ≤ 1000000 ∧ 0 ≤ y ∧ y ≤ 1000000 := by
  refine ⟨_, _, _, _, _, _, _, _, _, _, foldl_bump a _ _ _ _ _, foldl_bump b _ _ _ _ _, ?_, ?_⟩
  · unfold countsP
    rw [foldl_bump]
    simp only [cntO_append]
    simp
  · have a1 := cntO_le 1 a
    have a2 := cntO_le 2 a
    have a3 := cntO_le 3 a
    have a4 := cntO_le 4 a
    have b1 := cntO_le 1 b
    have b2 := cntO_le 2 b
    have b3 := cntO_le 3 b
    have b4 := cntO_le 4 b
    intro i hi
    match i, hi with
    | 0, _ => exact ⟨_, _, rfl, rfl, rfl, by omega, by omega, by omega, by omega⟩
    | 1, _ => exact ⟨_, _, rfl, rfl, rfl, by omega, by omega, by omega, by omega⟩
    | 2, _ => exact ⟨_, _, rfl, rfl, rfl, by omega, by omega, by omega, by omega⟩
    | 3, _ => exact ⟨_, _, rfl, rfl, rfl, by omega, by omega, by omega, by omega⟩
    | 4, _ => exact ⟨_, _, rfl, rfl, rfl, by omega, by omega, by omega, by omega⟩
def restR (r : Rec) (n : Int) : Rec := ⟨r.slots, keepA n r.al, keepD n r.dl⟩
/-- The law: what Cut leaves and what the law's own deletion leaves join to the record. -/
theorem halves_law (r : Rec) (n : Int) (h : cutE r n = 0) : (cutR r n).slots = n ∧ joinE (cutR r n) (restR r n) = 0 ∧ joinR (cutR r n) (restR r n) = r ∧ (cutR r n).al ++ (restR r n).al = r.al ∧ (cutR r n).dl ++ (restR r n).dl = r.dl := by
  unfold cutE at h
  by_cases hg : good r = true
  case neg => rw [if_neg hg] at h; cases h
  rw [if_pos hg] at h
  by_cases hn : n < 0 ∨ r.slots < n
  · rw [if_pos hn] at h; cases h
  have hC : cutR r n = ⟨n, cutA r.al n, cutD r.dl n⟩ := by unfold cutR; rw [if_pos hg, if_neg hn]
  have hg' := hg
  simp only [good, Bool.and_eq_true, decide_eq_true_eq] at hg'
  obtain ⟨g1, g2, g3, g4, g5, g6⟩ := hg'
  obtain ⟨a1, a2, a3⟩ := halfA (n := n) r.al none [] (-1) g5
  obtain ⟨d1, d2, d3⟩ := halfD (n := n) r.dl none g6
  have la1 : (cutA r.al n).length ≤ r.al.length := List.length_filter_le _ _
  have la2 : (keepA n r.al).length ≤ r.al.length := List.length_filter_le _ _
  have ld1 : (cutD r.dl n).length ≤ r.dl.length := List.length_filter_le _ _
  have ld2 : (keepD n r.dl).length ≤ r.dl.length := List.length_filter_le _ _
  have gC : good (cutR r n) = true := by
    rw [hC]
    simp only [good, Bool.and_eq_true, decide_eq_true_eq]
    exact ⟨by omega, by omega, by omega, by omega, a1, d1⟩
  have gR : good (restR r n) = true := by
    show good ⟨r.slots, keepA n r.al, keepD n r.dl⟩ = true
    simp only [good, Bool.and_eq_true, decide_eq_true_eq]
    exact ⟨by omega, by omega, by omega, by omega, a3, d3⟩
  have he : earlyB (cutR r n) (restR r n) = false := by
    rw [hC]
    show earlyB ⟨n, cutA r.al n, cutD r.dl n⟩ ⟨r.slots, keepA n r.al, keepD n r.dl⟩ = false
    simp only [earlyB, Bool.or_eq_false_iff, decide_eq_false_iff_not, List.any_eq_false, decide_eq_true_eq]
    refine ⟨by omega, fun x hx => ?_, fun x hx => ?_⟩
    · have := (List.mem_filter.1 hx).2; simpa using this
    · have := (List.mem_filter.1 hx).2; simpa using this
  refine ⟨by rw [hC], ?_, ?_, by rw [hC]; exact a2, by rw [hC]; exact d2⟩
  · unfold joinE
    simp [gC, gR, he]
  · unfold joinR
    simp only [gC, gR, he, if_true]
    rw [hC]
    simp only [restR, a2, d2]
    simp
theorem cutR_bad (r : Rec) (n : Int) (h : ¬ cutE r n = 0) : cutR r n = ⟨0, [], []⟩ := by
  unfold cutE at h
  unfold cutR
  split
  · rename_i hg
    split
    · rfl
    · rename_i hn; rw [if_pos hg, if_neg hn] at h; exact absurd rfl h
  · rfl

end Go.Proofs.Ytllakkepphpfmaa
