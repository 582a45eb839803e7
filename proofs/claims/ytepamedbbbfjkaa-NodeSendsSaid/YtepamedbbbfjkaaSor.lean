/- Rows of structs that are changed in place: what stands where, exchanges. Generic: no program's numbers. -/
import Derived.Test.YtepamedbbbfjkaaRoom
import Derived.Deep.MidRow
namespace Go.Proofs.Ytepamedbbbfjkaa
open Go.RowKit

/-- Block g holds the rows, one behind the other. -/
def RowsAt (w : World) (g : Nat) (t : TypeId) (S : Nat) (rows : List (List Value)) : Prop :=
  (∀ r ∈ rows, r.length = S) ∧ ∃ cur : Array Value, w.heap[g]? = some (.cells cur t (0, 0)) ∧ ∀ k row, rows[k]? = some row → ∀ j u, row[j]? = some u → cur[k * S + j]? = some u

theorem setCells_heap (t : TypeId) (g : Nat) : ∀ (us : List Value) (o : Nat) (w : World) (cur : Array Value), w.heap[g]? = some (.cells cur t (0, 0)) →
    ∃ cur' : Array Value, (World.setCells w g o us).heap[g]? = some (.cells cur' t (0, 0)) ∧ cur'.size = cur.size ∧ (∀ i, (i < o ∨ o + us.length ≤ i) → cur'[i]? = cur[i]?) ∧ (∀ j u, us[j]? = some u → o + j < cur.size → cur'[o + j]? = some u)
  | [], o, w, cur, h => ⟨cur, h, rfl, fun _ _ => rfl, fun j u hu => by simp at hu⟩
  | u :: us, o, w, cur, h => by
    have h1 := heap_setCell_same w g o cur t u h
    obtain ⟨cur', h2, h3, h4, h5⟩ := setCells_heap t g us (o + 1) (w.setCell ⟨g, o, none⟩ u) _ h1
    refine ⟨cur', h2, by rw [h3]; simp, fun i hi => ?_, fun j v hv hs => ?_⟩
    · rw [List.length_cons] at hi
      rw [h4 i (by omega)]
      have : o ≠ i := by omega
      simp [this]
    · cases j with
      | zero =>
        rw [h4 (o + 0) (by omega)]
        simp at hv
        subst hv
        simp [Array.getElem?_setIfInBounds]
        omega
      | succ j =>
        have := h5 j v (by simpa using hv) (by simp; omega)
        rw [show o + (j + 1) = o + 1 + j by omega]
        exact this

theorem RowsAt.put {w : World} {g S : Nat} {t : TypeId} {rows : List (List Value)} (h : RowsAt w g t S rows) {i : Nat} {row : List Value} (hi : i < rows.length) (hr : row.length = S) : RowsAt (World.setCells w g (i * S) row) g t S (rows.set i row) := by
  obtain ⟨hl, cur, hg, hc⟩ := h
  obtain ⟨cur', h2, h3, h4, h5⟩ := setCells_heap t g row (i * S) w cur hg
  have hl' : ∀ r ∈ rows.set i row, r.length = S := fun r hm => by
    rcases List.mem_or_eq_of_mem_set hm with hm | rfl
    · exact hl r hm
    · exact hr
  refine ⟨hl', cur', h2, fun k r hk j u hu => ?_⟩
  have hjS : j < S := by
    have := (List.getElem?_eq_some_iff.1 hu).1
    rw [hl' r (List.mem_of_getElem? hk)] at this
    exact this
  by_cases hki : i = k
  · subst hki
    rw [List.getElem?_set_self hi] at hk
    obtain rfl : row = r := by simpa using hk
    have hold : rows[i]? = some rows[i] := List.getElem?_eq_getElem hi
    obtain ⟨v, hv⟩ : ∃ v, rows[i][j]? = some v := ⟨_, List.getElem?_eq_getElem (by rw [hl _ (List.getElem_mem hi)]; exact hjS)⟩
    have := hc i _ hold j v hv
    exact h5 j u hu (Array.getElem?_eq_some_iff.1 this).1
  · rw [List.getElem?_set_ne hki] at hk
    rw [h4 _ (by rcases Nat.lt_or_gt_of_ne hki with q | q
                 · right; rw [hr]; have := Nat.mul_le_mul_right S (show i + 1 ≤ k by omega); rw [Nat.succ_mul] at this; omega
                 · left; have := Nat.mul_le_mul_right S (show k + 1 ≤ i by omega); rw [Nat.succ_mul] at this; omega)]
    exact hc k r hk j u hu

theorem RowsAt.lt {w : World} {g S : Nat} {t : TypeId} {rows : List (List Value)} (h : RowsAt w g t S rows) : g < w.heap.size := by
  obtain ⟨_, cur, hg, _⟩ := h
  exact heap_lt hg
theorem RowsAt.keep {w w' : World} {g S : Nat} {t : TypeId} {rows : List (List Value)} (h : RowsAt w g t S rows) (he : w'.heap[g]? = w.heap[g]?) : RowsAt w' g t S rows := by
  obtain ⟨hl, cur, hg, hc⟩ := h
  exact ⟨hl, cur, he.trans hg, hc⟩
theorem RowsAt.cell {w : World} {g S : Nat} {t : TypeId} {rows : List (List Value)} (h : RowsAt w g t S rows) {k j : Nat} {row : List Value} {u : Value} (hk : rows[k]? = some row) (hu : row[j]? = some u) : w.cell? ⟨g, k * S + j, none⟩ = some u := by
  obtain ⟨_, cur, hg, hc⟩ := h
  rw [cell_of_row w g _ cur t (0, 0) hg]
  exact hc k row hk j u hu
theorem RowsAt.frozen {w : World} {g S : Nat} {t : TypeId} {rows : List (List Value)} (h : RowsAt w g t S rows) (j : Nat) : w.frozen? ⟨g, j, none⟩ = false := by
  obtain ⟨_, cur, hg, _⟩ := h
  exact frozen_of_row w g j cur t hg
theorem RowsAt.there {w : World} {g S : Nat} {t : TypeId} {rows : List (List Value)} (h : RowsAt w g t S rows) {k : Nat} (hk : k < rows.length) : w.there g (k * S) S := fun j hj => by
  have hr : rows[k]? = some rows[k] := List.getElem?_eq_getElem hk
  have hl := h.1 _ (List.getElem_mem hk)
  have := h.cell hr (List.getElem?_eq_getElem (by omega : j < rows[k].length))
  exact ⟨by rw [this]; rfl, h.frozen _⟩
theorem RowsAt.lies {w : World} {g S : Nat} {t : TypeId} {rows : List (List Value)} (h : RowsAt w g t S rows) : Lies w w.heap.size S (some ⟨g, 0, none⟩) rows := fun _ => ⟨g, 0, rfl, h.lt, fun k row hk j u hu => by
  have := h.cell hk hu
  rw [Nat.zero_add]; exact this⟩
theorem RowsAt.of_own {α : Type} {f : α → List Value} {S : Nat} (hf : ∀ a, (f a).length = S) {w : World} {base g n c : Nat} {t : TypeId} {l : List α} (h : w.ownsRow base t S (.slice (some ⟨g, 0, none⟩) n c) l.length (l.flatMap f)) : RowsAt w g t S (l.map f) := by
  refine ⟨fun r hr => by obtain ⟨a, _, rfl⟩ := List.mem_map.1 hr; exact hf a, ?_⟩
  rcases h.2 with ⟨h', _⟩ | ⟨g', cap', cur, h', hb, hg, hnc, hcm, hcs, htake⟩
  · simp at h'
  · simp only [Value.slice.injEq, Option.some.injEq, Addr.mk.injEq, and_true] at h'
    obtain ⟨rfl, _⟩ := h'
    refine ⟨cur, hg, fun k row hk j u hu => ?_⟩
    rw [List.getElem?_map] at hk
    cases ha : l[k]? with
    | none => rw [ha] at hk; cases hk
    | some a =>
      rw [ha] at hk
      obtain rfl : f a = row := by simpa using hk
      have hj : j < S := by have := (List.getElem?_eq_some_iff.1 hu).1; rw [hf] at this; exact this
      have h1 := flat_get f S hf l k j a ha hj
      rw [hu, ← htake, List.getElem?_take] at h1
      split at h1
      · simpa using h1
      · cases h1

/-- The rows of block g are those of l, in some order; else nothing that there was has changed. -/
def Perms {α : Type} (f : α → List Value) (t : TypeId) (S : Nat) (w0 : World) (g : Nat) (l0 : List α) (w : World) : Prop :=
  w0.grownBy w (some g) ∧ ∃ l : List α, l.Perm l0 ∧ RowsAt w g t S (l.map f)

theorem grown_refl (w : World) (r : Option Nat) : w.grownBy w r := ⟨rfl, rfl, rfl, Nat.le_refl _, fun _ _ _ => rfl⟩
theorem grown_trans {a b c : World} {r : Option Nat} (h : a.grownBy b r) (k : b.grownBy c r) : a.grownBy c r := ⟨k.os.trans h.os, k.tape.trans h.tape, k.output.trans h.output, Nat.le_trans h.size k.size, fun x hx hr => (k.block x (Nat.lt_of_lt_of_le hx h.size) hr).trans (h.block x hx hr)⟩
theorem grown_below {w w' : World} (h : Below w.heap.size w w') (r : Option Nat) : w.grownBy w' r := ⟨h.os, h.tape, h.output, h.size, fun x hx _ => h.block x hx⟩
theorem grown_put (g : Nat) : ∀ (us : List Value) (o : Nat) (w : World), w.grownBy (World.setCells w g o us) (some g)
  | [], _, w => grown_refl w _
  | u :: us, o, w => grown_trans (b := w.setCell ⟨g, o, none⟩ u) ⟨rfl, rfl, rfl, by simp [World.setCell], fun x _ hx => Below.heap_setCell w ⟨g, o, none⟩ u x (fun e => hx (by rw [e]))⟩ (grown_put g us (o + 1) _)
theorem Perms.start {α : Type} {f : α → List Value} {t : TypeId} {S : Nat} {w : World} {g : Nat} {l : List α} (h : RowsAt w g t S (l.map f)) : Perms f t S w g l w := ⟨grown_refl _ _, l, .refl _, h⟩
theorem Perms.below {α : Type} {f : α → List Value} {t : TypeId} {S : Nat} {w0 w w' : World} {g : Nat} {l : List α} (h : Perms f t S w0 g l w) (hb : Below w.heap.size w w') : Perms f t S w0 g l w' := by
  obtain ⟨hg, l', hp, hr⟩ := h
  exact ⟨grown_trans hg (grown_below hb _), l', hp, hr.keep (hb.block g hr.lt)⟩
theorem Perms.trans {α : Type} {f : α → List Value} {t : TypeId} {S : Nat} {w0 w w' : World} {g : Nat} {l l' : List α} (h : w0.grownBy w (some g)) (hp : l'.Perm l) (k : Perms f t S w g l' w') : Perms f t S w0 g l w' := by
  obtain ⟨hg, l2, hp2, hr⟩ := k
  exact ⟨grown_trans h hg, l2, hp2.trans hp, hr⟩
theorem set_map {α β : Type} (f : α → β) (l : List α) (i : Nat) (a : α) : (l.map f).set i (f a) = (l.set i a).map f := by rw [List.map_set]
/-- Two rows are exchanged. -/
theorem Perms.swap {α : Type} {f : α → List Value} {t : TypeId} {S : Nat} (hf : ∀ a, (f a).length = S) {w0 w : World} {g : Nat} {l0 l : List α} (hg : w0.grownBy w (some g)) (hp : l.Perm l0) (hr : RowsAt w g t S (l.map f)) {i j : Nat} {a b : α} (hi : l[i]? = some a) (hj : l[j]? = some b) :
    Perms f t S w0 g l0 ((w.setCells g (i * S) (f b)).setCells g (j * S) (f a)) := by
  obtain ⟨hil, rfl⟩ := List.getElem?_eq_some_iff.1 hi
  obtain ⟨hjl, rfl⟩ := List.getElem?_eq_some_iff.1 hj
  refine ⟨grown_trans hg (grown_trans (grown_put g _ _ _) (grown_put g _ _ _)), (l.set i l[j]).set j l[i], (List.set_set_perm hil hjl).trans hp, ?_⟩
  have h1 := hr.put (i := i) (row := f l[j]) (by simpa using hil) (hf _)
  rw [set_map] at h1
  have h2 := h1.put (i := j) (row := f l[i]) (by simpa using hjl) (hf _)
  rw [set_map] at h2
  exact h2
end Go.Proofs.Ytepamedbbbfjkaa
