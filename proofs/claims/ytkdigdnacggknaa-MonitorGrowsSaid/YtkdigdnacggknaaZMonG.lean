import Derived.Test.YtkdigdnacggknaaZNodP
/- Plain law of MonitorGrows: what is late in the beginning of a record. No program's numbers. -/
namespace Go.Proofs.Ytkdigdnacggknaa
open Rc Nd
namespace Mo
theorem prevD_le {slots : Int} : ∀ (l : List Dlv) (p : Option Dlv), dlvsGo slots p l = true → (∀ q, p = some q → ∀ d ∈ l, q.sl ≤ d.sl) ∧ l.Pairwise (fun a b => a.sl ≤ b.sl)
  | [], _, _ => ⟨fun _ _ _ h => (by cases h), List.Pairwise.nil⟩
  | a :: l, p, h => by
    rw [dlvsGo] at h
    split at h
    · cases h
    · split at h
      · cases h
      · rename_i hb
        obtain ⟨i1, i2⟩ := prevD_le l (some a) h
        have i1' := i1 a rfl
        refine ⟨fun q hq d hd => ?_, List.Pairwise.cons i1' i2⟩
        subst hq
        have h4 : q.sl ≤ a.sl := by
          rcases Int.lt_or_le a.sl q.sl with h1 | h1
          · exfalso
            have h2 : cmpI q.sl a.sl = 1 := by unfold cmpI; rw [if_neg (by omega), if_pos h1]
            simp [prevBadD, cmpD, orI, h2] at hb
          · exact h1
        rcases List.mem_cons.1 hd with rfl | hd
        · exact h4
        · have := i1' d hd; omega
theorem filter_split {S : List Int} (N : Int) (hs : S.Pairwise (fun a b => a ≤ b)) : S = S.filter (fun s => decide (s < N)) ++ S.filter (fun s => !decide (s < N)) := by
  induction S with
  | nil => rfl
  | cons a l ih =>
    obtain ⟨h1, h2⟩ := List.pairwise_cons.1 hs
    by_cases ha : a < N
    · rw [List.filter_cons_of_pos (by simpa using ha), List.filter_cons_of_neg (by simpa using ha), List.cons_append, ← ih h2]
    · have h0 : l.filter (fun s => decide (s < N)) = [] := by
        rw [List.filter_eq_nil_iff]
        intro x hx
        have := h1 x hx
        simp; omega
      have h3 : l.filter (fun s => !decide (s < N)) = l := by
        rw [List.filter_eq_self]
        intro x hx
        have := h1 x hx
        simp; omega
      rw [List.filter_cons_of_neg (by simpa using ha), List.filter_cons_of_pos (by simpa using ha), h0, h3]
      rfl
def cutDl (l : List Dlv) (n : Int) : List Dlv := l.filter fun a => decide (a.sl < n)
theorem slots_cut (l : List Dlv) (n fl fr : Int) : slotsOf (cutDl l n) fl fr = (slotsOf l fl fr).filter (fun s => decide (s < n)) := by
  unfold slotsOf cutDl
  rw [List.filter_map, List.filter_filter, List.filter_filter]
  congr 1
  apply List.filter_congr
  intro d _
  show (_ && _) = (_ && _)
  rw [Bool.and_comm]
  rfl
theorem slots_sorted {l : List Dlv} (h : l.Pairwise (fun a b => a.sl ≤ b.sl)) (fl fr : Int) : (slotsOf l fl fr).Pairwise (fun a b => a ≤ b) := by
  unfold slotsOf
  rw [List.pairwise_map]
  exact h.filter _
theorem arrival_cut {f : Fl} (_hf : fault f = 0) {dl : List Dlv} (hd : ∀ d ∈ dl, 0 ≤ d.sl) (hs : dl.Pairwise (fun a b => a.sl ≤ b.sl)) {N : Int} {n : Nat} (hn : rel f n + f.dl ≤ N)
    (ha : (arrival f n (slotsOf (cutDl dl N) f.id n)).2 = false) : (arrival f n (slotsOf dl f.id n)).2 = false ∧ ((arrival f n (slotsOf (cutDl dl N) f.id n)).1 ≠ -1 ∨ rel f n + f.pe - 1 < N → (arrival f n (slotsOf dl f.id n)).1 = (arrival f n (slotsOf (cutDl dl N) f.id n)).1) := by
  have hS : ∀ s ∈ slotsOf dl f.id n, 0 ≤ s := fun s hs => by
    obtain ⟨d, h1, _, _, h2⟩ := mem_slotsOf hs
    rw [← h2]; exact hd d h1
  have hsp := filter_split N (slots_sorted hs f.id n)
  rw [slots_cut] at ha ⊢
  generalize slotsOf dl f.id n = S at *
  have hH : ∀ s ∈ S.filter (fun s => decide (s < N)), 0 ≤ s := fun s h => hS s (List.mem_filter.1 h).1
  unfold arrival at ha ⊢
  rw [arr_first _ _ _ _ hS]
  rw [arr_first _ _ _ _ hH] at ha ⊢
  cases hq : (S.filter (fun s => decide (s < N))).find? (fun s => decide (rel f n ≤ s) && decide (s ≤ rel f n + f.dl - 1)) with
  | some s => rw [hq] at ha; cases ha
  | none =>
    have hq2 : S.find? (fun s => decide (rel f n ≤ s) && decide (s ≤ rel f n + f.dl - 1)) = none := by
      rw [List.find?_eq_none]
      intro s hs' hc
      rw [Bool.and_eq_true, decide_eq_true_eq, decide_eq_true_eq] at hc
      exact List.find?_eq_none.1 hq s (List.mem_filter.2 ⟨hs', by simp; omega⟩) (by rw [Bool.and_eq_true, decide_eq_true_eq, decide_eq_true_eq]; exact hc)
    rw [hq2]
    refine ⟨rfl, fun hc => ?_⟩
    dsimp only at hc ⊢
    have hap : S.find? (fun s => decide (rel f n + f.dl - 1 + 1 ≤ s) && decide (s ≤ rel f n + f.pe - 1)) = ((S.filter (fun s => decide (s < N))).find? (fun s => decide (rel f n + f.dl - 1 + 1 ≤ s) && decide (s ≤ rel f n + f.pe - 1))).or ((S.filter (fun s => !decide (s < N))).find? (fun s => decide (rel f n + f.dl - 1 + 1 ≤ s) && decide (s ≤ rel f n + f.pe - 1))) := by
      rw [← List.find?_append, ← hsp]
    rw [hap]
    cases hz : (S.filter (fun s => decide (s < N))).find? (fun s => decide (rel f n + f.dl - 1 + 1 ≤ s) && decide (s ≤ rel f n + f.pe - 1)) with
    | some z => rfl
    | none =>
      rw [hz] at hc
      rcases hc with hc | hc
      · exact absurd rfl hc
      · have : (S.filter (fun s => !decide (s < N))).find? (fun s => decide (rel f n + f.dl - 1 + 1 ≤ s) && decide (s ≤ rel f n + f.pe - 1)) = none := by
          rw [List.find?_eq_none]
          intro s hs' hcc
          have h2 := (List.mem_filter.1 hs').2
          rw [Bool.and_eq_true, decide_eq_true_eq, decide_eq_true_eq] at hcc
          have h3 : ¬ s < N := by simpa using h2
          omega
        rw [this]
        rfl
theorem late_mem {fs : List Fl} {r : Rec} (h : right fs r = true) {x : Lt} (hx : x ∈ (late fs r).1) : ∃ f ∈ fs, ∃ n : Nat, n < (complete f r.slots).toNat ∧ (arrival f n (slotsOf r.dl f.id n)).2 = false ∧ x = ⟨f.id, n, (arrival f n (slotsOf r.dl f.id n)).1⟩ := by
  unfold late at hx
  rw [if_pos h] at hx
  obtain ⟨f, hf, hx⟩ := List.mem_flatMap.1 hx
  obtain ⟨n, hn, hx⟩ := List.mem_flatMap.1 hx
  refine ⟨f, hf, n, List.mem_range.1 hn, ?_⟩
  unfold lateN at hx
  split at hx
  · cases hx
  · rename_i hq
    exact ⟨by simpa using hq, List.mem_singleton.1 hx⟩
theorem late_find {fs : List Fl} {r : Rec} (h : right fs r = true) {f : Fl} (hf : f ∈ fs) {n : Nat} (hn : n < (complete f r.slots).toNat) (ha : (arrival f n (slotsOf r.dl f.id n)).2 = false) :
    (late fs r).1.find? (fun z => z.fl == f.id && z.fr == (n : Int)) = some ⟨f.id, n, (arrival f n (slotsOf r.dl f.id n)).1⟩ := by
  obtain ⟨hc, _⟩ := right_inv h
  obtain ⟨_, hpw, _⟩ := chkF_ok hc
  cases hq : (late fs r).1.find? (fun z => z.fl == f.id && z.fr == (n : Int)) with
  | none =>
    exfalso
    have hm : (⟨f.id, n, (arrival f n (slotsOf r.dl f.id n)).1⟩ : Lt) ∈ (late fs r).1 := by
      unfold late
      rw [if_pos h]
      exact List.mem_flatMap.2 ⟨f, hf, List.mem_flatMap.2 ⟨n, List.mem_range.2 hn, by unfold lateN; rw [if_neg (by rw [ha]; decide)]; exact List.mem_singleton.2 rfl⟩⟩
    have := List.find?_eq_none.1 hq _ hm
    simp at this
  | some z =>
    have h1 := List.find?_some hq
    rw [Bool.and_eq_true, beq_iff_eq, beq_iff_eq] at h1
    obtain ⟨g, hg, m, _, _, rfl⟩ := late_mem h (List.mem_of_find?_eq_some hq)
    obtain ⟨e1, e2⟩ := h1
    have h2 := find_self_ hpw hf
    have h3 := find_self_ hpw hg
    have e1' : g.id = f.id := e1
    rw [e1'] at h3
    rw [h3] at h2
    injection h2 with h2
    subst h2
    have e2' : (m : Int) = (n : Int) := e2
    have : m = n := by omega
    subst this
    rfl
def halfR (r : Rec) (n : Int) : Rec := ⟨n, r.al.filter (fun a => decide (a.s < n)), cutDl r.dl n⟩
/-- MonitorGrows in plain terms. -/
theorem grows_law {fs : List Fl} {r : Rec} {N : Int} (hh : right fs (halfR r N) = true) (h : right fs r = true) (hN : N ≤ r.slots) {x : Lt} (hx : x ∈ (late fs (halfR r N)).1) :
    ∃ y, (late fs r).1.find? (fun z => z.fl == x.fl && z.fr == x.fr) = some y ∧ (x.sl ≠ -1 → y = x) ∧ ∃ f, fs.find? (fun f => f.id == x.fl) = some f ∧ f ∈ fs ∧ 0 ≤ x.fr ∧ x.fr < 4096 ∧ (rel f x.fr + f.pe - 1 < N → y = x) := by
  obtain ⟨hc, hg⟩ := right_inv h
  obtain ⟨hfa, hpw, _⟩ := chkF_ok hc
  obtain ⟨f, hf, n, hn, ha, rfl⟩ := late_mem hh hx
  have hrel := (complete_iff (hfa f hf) N n).2 hn
  have hn2 := (complete_iff (hfa f hf) r.slots n).1 (by omega)
  have hsrt : r.dl.Pairwise (fun a b => a.sl ≤ b.sl) := by
    simp only [good, Bool.and_eq_true] at hg
    exact (prevD_le r.dl none hg.2.2.2.2.2).2
  have hd0 : ∀ d ∈ r.dl, 0 ≤ d.sl := fun d hd => (good_dlv hg hd).1
  obtain ⟨a1, a2⟩ := arrival_cut (hfa f hf) hd0 hsrt hrel ha
  have hcb := complete_bounds (hfa f hf) (slots := r.slots) (good_slots hg).2
  refine ⟨_, late_find h hf hn2 a1, fun hs => ?_, f, find_self_ hpw hf, hf, by dsimp only; omega, by dsimp only; omega, fun he => ?_⟩
  · rw [a2 (.inl hs)]; rfl
  · rw [a2 (.inr he)]; rfl
end Mo
end Go.Proofs.Ytkdigdnacggknaa
/- Plain: the beginning of a good record is good. No program's numbers. -/
namespace Go.Proofs.Ytkdigdnacggknaa
open Rc Nd Mo
namespace Hg
def cutA (l : List Att) (n : Int) : List Att := l.filter fun a => decide (a.s < n)
def cutD (l : List Dlv) (n : Int) : List Dlv := l.filter fun a => decide (a.sl < n)
def keepA (n : Int) (l : List Att) : List Att := l.filter fun a => !decide (a.s < n)
def keepD (n : Int) (l : List Dlv) : List Dlv := l.filter fun a => !decide (a.sl < n)
theorem cmpA_le {p a : Att} (h : cmpA p a < 0) : p.s ≤ a.s := by
  rcases Int.lt_or_le a.s p.s with h1 | h1
  · exfalso
    have h2 : cmpI p.s a.s = 1 := by unfold cmpI; rw [if_neg (by omega), if_pos h1]
    simp only [cmpA, orI, h2] at h
    simp at h
  · exact h1
theorem cmpD_le {p a : Dlv} (h : cmpD p a < 0) : p.sl ≤ a.sl := by
  rcases Int.lt_or_le a.sl p.sl with h1 | h1
  · exfalso
    have h2 : cmpI p.sl a.sl = 1 := by unfold cmpI; rw [if_neg (by omega), if_pos h1]
    simp only [cmpD, orI, h2] at h
    simp at h
  · exact h1
/-- One step of the walk over attempts. -/
theorem attsGo_cons {slots : Int} {p : Option Att} {S : List Int} {at_ : Int} {a : Att} {l : List Att} :
    attsGo slots p S at_ (a :: l) = true ↔ attB a slots = true ∧ prevBad p a = false ∧ ((a.s = at_ ∧ a.cf ∉ S ∧ attsGo slots (some a) (a.cf :: S) at_ l = true) ∨ (a.s ≠ at_ ∧ attsGo slots (some a) [a.cf] a.s l = true)) := by
  rw [attsGo]
  cases h1 : attB a slots <;> cases h2 : prevBad p a <;> simp
  by_cases h3 : a.s = at_
  · by_cases h4 : a.cf ∈ S <;> simp [h3, h4]
  · simp [h3]
theorem dlvsGo_cons {slots : Int} {p : Option Dlv} {a : Dlv} {l : List Dlv} :
    dlvsGo slots p (a :: l) = true ↔ dlvB a slots = true ∧ prevBadD p a = false ∧ dlvsGo slots (some a) l = true := by
  rw [dlvsGo]
  cases h1 : dlvB a slots <;> cases h2 : prevBadD p a <;> simp
theorem attsGo_le {slots : Int} : ∀ (l : List Att) (q : Att) (S : List Int) (at_ : Int), attsGo slots (some q) S at_ l = true → ∀ x ∈ l, q.s ≤ x.s
  | [], _, _, _, _, x, hx => by cases hx
  | a :: l, q, S, at_, h, x, hx => by
    obtain ⟨_, h2, h3⟩ := attsGo_cons.1 h
    have h4 : q.s ≤ a.s := cmpA_le (by simpa [prevBad] using h2)
    rcases List.mem_cons.1 hx with rfl | hx
    · exact h4
    · rcases h3 with ⟨_, _, h5⟩ | ⟨_, h5⟩
      · exact Int.le_trans h4 (attsGo_le l a _ _ h5 x hx)
      · exact Int.le_trans h4 (attsGo_le l a _ _ h5 x hx)
theorem dlvsGo_le {slots : Int} : ∀ (l : List Dlv) (q : Dlv), dlvsGo slots (some q) l = true → ∀ x ∈ l, q.sl ≤ x.sl
  | [], _, _, x, hx => by cases hx
  | a :: l, q, h, x, hx => by
    obtain ⟨_, h2, h3⟩ := dlvsGo_cons.1 h
    have h4 : q.sl ≤ a.sl := cmpD_le (by simpa [prevBadD] using h2)
    rcases List.mem_cons.1 hx with rfl | hx
    · exact h4
    · exact Int.le_trans h4 (dlvsGo_le l a h3 x hx)
theorem attsGo_sub {slots : Int} : ∀ (l : List Att) (p : Option Att) (S S' : List Int) (at_ : Int), (∀ x ∈ S', x ∈ S) → attsGo slots p S at_ l = true → attsGo slots p S' at_ l = true
  | [], _, _, _, _, _, _ => rfl
  | a :: l, p, S, S', at_, hs, h => by
    obtain ⟨h1, h2, h3⟩ := attsGo_cons.1 h
    refine attsGo_cons.2 ⟨h1, h2, ?_⟩
    rcases h3 with ⟨h4, h5, h6⟩ | h4
    · refine .inl ⟨h4, fun hx => h5 (hs _ hx), attsGo_sub l _ _ _ _ ?_ h6⟩
      intro x hx
      rcases List.mem_cons.1 hx with rfl | hx
      · simp
      · exact List.mem_cons_of_mem _ (hs _ hx)
    · exact .inr h4
theorem attB_pos {a : Att} {slots : Int} (h : attB a slots = true) : 0 ≤ a.s := by
  simp only [attB, belowB, Bool.and_eq_true, decide_eq_true_eq] at h
  exact h.1.1
theorem attB_cut {a : Att} {slots n : Int} (h : attB a slots = true) (hn : a.s < n) : attB a n = true := by
  simp only [attB, Bool.and_eq_true] at h ⊢
  refine ⟨?_, h.2⟩
  have h1 := h.1
  simp only [belowB, Bool.and_eq_true, decide_eq_true_eq] at h1 ⊢
  exact ⟨h1.1, hn⟩
theorem dlvB_cut {a : Dlv} {slots n : Int} (h : dlvB a slots = true) (hn : a.sl < n) : dlvB a n = true := by
  simp only [dlvB, Bool.and_eq_true] at h ⊢
  refine ⟨h.1, h.2.1, ?_⟩
  have h1 := h.2.2
  simp only [belowB, Bool.and_eq_true, decide_eq_true_eq] at h1 ⊢
  exact ⟨h1.1, hn⟩
theorem cutA_none {l : List Att} {n : Int} (h : ∀ x ∈ l, n ≤ x.s) : cutA l n = [] ∧ keepA n l = l := by
  unfold cutA keepA
  refine ⟨List.filter_eq_nil_iff.2 fun x hx => ?_, List.filter_eq_self.2 fun x hx => ?_⟩
  · have := h x hx; simp; omega
  · have := h x hx; simp; omega
theorem cutD_none {l : List Dlv} {n : Int} (h : ∀ x ∈ l, n ≤ x.sl) : cutD l n = [] ∧ keepD n l = l := by
  unfold cutD keepD
  refine ⟨List.filter_eq_nil_iff.2 fun x hx => ?_, List.filter_eq_self.2 fun x hx => ?_⟩
  · have := h x hx; simp; omega
  · have := h x hx; simp; omega
theorem halfA {slots n : Int} : ∀ (l : List Att) (p : Option Att) (S : List Int) (at_ : Int), attsGo slots p S at_ l = true →
    attsGo n p S at_ (cutA l n) = true ∧ cutA l n ++ keepA n l = l ∧ attsGo slots none [] (-1) (keepA n l) = true
  | [], _, _, _, _ => ⟨rfl, rfl, rfl⟩
  | a :: l, p, S, at_, h => by
    obtain ⟨h1, h2, h3⟩ := attsGo_cons.1 h
    by_cases hs : a.s < n
    · have c1 : cutA (a :: l) n = a :: cutA l n := by unfold cutA; rw [List.filter_cons_of_pos (by simpa using hs)]
      have c2 : keepA n (a :: l) = keepA n l := by unfold keepA; rw [List.filter_cons_of_neg (by simpa using hs)]
      rw [c1, c2]
      rcases h3 with ⟨h4, h5, h6⟩ | ⟨h4, h6⟩
      · obtain ⟨i1, i2, i3⟩ := halfA (n := n) l _ _ _ h6
        exact ⟨attsGo_cons.2 ⟨attB_cut h1 hs, h2, .inl ⟨h4, h5, i1⟩⟩, by rw [List.cons_append, i2], i3⟩
      · obtain ⟨i1, i2, i3⟩ := halfA (n := n) l _ _ _ h6
        exact ⟨attsGo_cons.2 ⟨attB_cut h1 hs, h2, .inr ⟨h4, i1⟩⟩, by rw [List.cons_append, i2], i3⟩
    · have hall : ∀ x ∈ a :: l, n ≤ x.s := by
        intro x hx
        rcases List.mem_cons.1 hx with rfl | hx
        · omega
        · rcases h3 with ⟨_, _, h6⟩ | ⟨_, h6⟩
          · have := attsGo_le l a _ _ h6 x hx; omega
          · have := attsGo_le l a _ _ h6 x hx; omega
      obtain ⟨c1, c2⟩ := cutA_none hall
      rw [c1, c2]
      refine ⟨rfl, rfl, attsGo_cons.2 ⟨h1, rfl, .inr ⟨?_, ?_⟩⟩⟩
      · have := attB_pos h1; omega
      · rcases h3 with ⟨h4, _, h6⟩ | ⟨_, h6⟩
        · rw [h4]
          exact attsGo_sub l _ _ _ _ (by intro x hx; simp at hx; simp [hx]) h6
        · exact h6
theorem halfD {slots n : Int} : ∀ (l : List Dlv) (p : Option Dlv), dlvsGo slots p l = true →
    dlvsGo n p (cutD l n) = true ∧ cutD l n ++ keepD n l = l ∧ dlvsGo slots none (keepD n l) = true
  | [], _, _ => ⟨rfl, rfl, rfl⟩
  | a :: l, p, h => by
    obtain ⟨h1, h2, h3⟩ := dlvsGo_cons.1 h
    by_cases hs : a.sl < n
    · have c1 : cutD (a :: l) n = a :: cutD l n := by unfold cutD; rw [List.filter_cons_of_pos (by simpa using hs)]
      have c2 : keepD n (a :: l) = keepD n l := by unfold keepD; rw [List.filter_cons_of_neg (by simpa using hs)]
      rw [c1, c2]
      obtain ⟨i1, i2, i3⟩ := halfD (n := n) l _ h3
      exact ⟨dlvsGo_cons.2 ⟨dlvB_cut h1 hs, h2, i1⟩, by rw [List.cons_append, i2], i3⟩
    · have hall : ∀ x ∈ a :: l, n ≤ x.sl := by
        intro x hx
        rcases List.mem_cons.1 hx with rfl | hx
        · omega
        · have := dlvsGo_le l a h3 x hx; omega
      obtain ⟨c1, c2⟩ := cutD_none hall
      rw [c1, c2]
      exact ⟨rfl, rfl, dlvsGo_cons.2 ⟨h1, rfl, h3⟩⟩

def cntO (k : Int) (al : List Att) : Int := ((al.filter fun a => decide (a.o = k)).length : Int)

theorem good_half {r : Rec} {n : Int} (hg : good r = true) (h0 : 0 ≤ n) (h1 : n ≤ r.slots) : good (halfR r n) = true := by
  simp only [good, Bool.and_eq_true, decide_eq_true_eq] at hg
  obtain ⟨g1, g2, g3, g4, g5, g6⟩ := hg
  obtain ⟨a1, _, _⟩ := halfA (n := n) r.al none [] (-1) g5
  obtain ⟨d1, _, _⟩ := halfD (n := n) r.dl none g6
  have la1 : (cutA r.al n).length ≤ r.al.length := List.length_filter_le _ _
  have ld1 : (cutD r.dl n).length ≤ r.dl.length := List.length_filter_le _ _
  show good ⟨n, cutA r.al n, cutD r.dl n⟩ = true
  simp only [good, Bool.and_eq_true, decide_eq_true_eq]
  exact ⟨by omega, by omega, by omega, by omega, a1, d1⟩
end Hg
end Go.Proofs.Ytkdigdnacggknaa
