/- Owned rows of cells read as lists; slices of integers. Generic: no program's numbers. -/
import Derived.Test.YtepamedbbbfjkaaMem
import Derived.Test.YtepamedbbbfjkaaFloat
import Derived.Lib.SliceRun
import Derived.OwnWalk
namespace Go.Proofs.Ytepamedbbbfjkaa
open Go.RowKit

theorem flat_get {α : Type} (f : α → List Value) (sz : Nat) (hf : ∀ a, (f a).length = sz) : ∀ (l : List α) (k j : Nat) (a : α), l[k]? = some a → j < sz → (l.flatMap f)[k * sz + j]? = (f a)[j]?
  | [], k, j, a, h, _ => by simp at h
  | x :: l, 0, j, a, h, hj => by
    simp at h
    subst h
    simp only [List.flatMap_cons, Nat.zero_mul, Nat.zero_add]
    rw [List.getElem?_append_left (by rw [hf]; exact hj)]
  | x :: l, k + 1, j, a, h, hj => by
    have h' : l[k]? = some a := by simpa using h
    simp only [List.flatMap_cons]
    rw [List.getElem?_append_right (by rw [hf, Nat.succ_mul]; omega), hf, show (k + 1) * sz + j - sz = k * sz + j by rw [Nat.succ_mul]; omega]
    exact flat_get f sz hf l k j a h' hj

theorem add_off (g j : Nat) : (⟨g, 0, none⟩ : Addr).add j = ⟨g, j, none⟩ := by
  unfold Addr.add
  split
  · rename_i h; subst h; rfl
  · simp

/-- An owned row of structs reads as a list. -/
theorem own_lies {α : Type} {f : α → List Value} {sz : Nat} (hf : ∀ a, (f a).length = sz) {w : World} {base : Nat} {e : TypeId} {v : Value} {l : List α} (h : w.ownsRow base e sz v l.length (l.flatMap f)) :
    ∃ A c, v = .slice A l.length c ∧ Lies w w.heap.size sz A (l.map f) ∧ l.length ≤ maxLen := by
  rcases h.2 with ⟨rfl, h0⟩ | ⟨g, cap, cur, rfl, hg, hh, hnc, hm, hs, ht⟩
  · refine ⟨none, 0, by rw [h0], ?_, by rw [h0]; unfold maxLen; omega⟩
    have : l = [] := List.eq_nil_of_length_eq_zero h0
    subst this
    exact Lies.nil _ _ _ _
  · refine ⟨_, cap, rfl, fun _ => ⟨g, 0, rfl, ?_, fun k row hr j u hu => ?_⟩, Nat.le_trans hnc hm⟩
    · rcases Nat.lt_or_ge g w.heap.size with h' | h'
      · exact h'
      · rw [Array.getElem?_eq_none h'] at hh; cases hh
    · rw [List.getElem?_map] at hr
      cases hk : l[k]? with
      | none => rw [hk] at hr; cases hr
      | some a =>
        rw [hk] at hr
        have hra : f a = row := by simpa using hr
        subst hra
        have hj : j < sz := by
          have := (List.getElem?_eq_some_iff.1 hu).1
          rw [hf] at this; exact this
        have := h.cells (g := g) rfl (k * sz + j) u (by rw [flat_get f sz hf l k j a hk hj]; exact hu)
        rw [add_off] at this
        rw [Nat.zero_add]; exact this
theorem add_any (b off j : Nat) : (⟨b, off, none⟩ : Addr).add j = ⟨b, off + j, none⟩ := by
  unfold Addr.add
  split
  · rename_i h; subst h; simp
  · simp

/-- The cells of a slice of structs, one after the other. -/
theorem Lies.news {α : Type} {f : α → List Value} {sz : Nat} (hf : ∀ a, (f a).length = sz) (hz : 0 < sz) {w : World} {B : Nat} {ad : Addr} {l : List α} (h : Lies w B sz (some ad) (l.map f)) : ∀ j u, (l.flatMap f)[j]? = some u → w.cell? (ad.add j) = some u := by
  intro j u hu
  have hne : l.map f ≠ [] := by
    intro h0
    have : l = [] := by simpa using h0
    subst this
    simp at hu
  obtain ⟨b, off, e, _, hc⟩ := h hne
  injection e with e
  subst e
  have hlen : (l.flatMap f).length = l.length * sz := by
    clear hu hc hne h
    induction l with
    | nil => simp
    | cons x l ih => rw [List.flatMap_cons, List.length_append, hf, ih, List.length_cons, Nat.succ_mul]; omega
  have hj : j < l.length * sz := by rw [← hlen]; exact (List.getElem?_eq_some_iff.1 hu).1
  have hk : j / sz < l.length := Nat.div_lt_of_lt_mul (by rw [Nat.mul_comm]; exact hj)
  have hr : j % sz < sz := Nat.mod_lt _ hz
  obtain ⟨a, ha⟩ := get_of_lt hk
  have hg := flat_get f sz hf l (j / sz) (j % sz) a ha hr
  have e : j / sz * sz + j % sz = j := by rw [Nat.mul_comm]; exact Nat.div_add_mod j sz
  rw [e] at hg
  have := hc (j / sz) (f a) (by simp [ha]) (j % sz) u (by rw [← hg]; exact hu)
  rw [Nat.add_assoc, e] at this
  rw [add_any]
  exact this
theorem flat_len {α : Type} {f : α → List Value} {sz : Nat} (hf : ∀ a, (f a).length = sz) : ∀ l : List α, (l.flatMap f).length = l.length * sz
  | [] => by simp
  | x :: l => by rw [List.flatMap_cons, List.length_append, hf, flat_len hf l, List.length_cons, Nat.succ_mul]; omega

theorem Blk.new2 {w : World} {g : Nat} (t : TypeId) (cs : List Value) (h : g = w.heap.size) : Blk (w.alloc (.cells cs.toArray t)) g t cs := by rw [h]; exact Blk.new w t cs
def irow (x : Int) : List Value := [.int .i64 x]
theorem irow_len (x : Int) : (irow x).length = 1 := rfl
/-- The slice with address A holds the integers l. -/
def LiesI (w : World) (B : Nat) (A : Option Addr) (l : List Int) : Prop := Lies w B 1 A (l.map irow)
theorem LiesI.below {w w' : World} {B : Nat} {A : Option Addr} {l : List Int} (h : LiesI w B A l) (hb : Below B w w') : LiesI w' B A l := Lies.below h hb
theorem LiesI.below_le {w w' : World} {B B' : Nat} {A : Option Addr} {l : List Int} (h : LiesI w B A l) (hb : Below B' w w') (hB : B ≤ B') : LiesI w' B A l := Lies.below_le h hb hB
theorem LiesI.more {w : World} {B B' : Nat} {A : Option Addr} {l : List Int} (h : LiesI w B A l) (hB : B ≤ B') : LiesI w B' A l := Lies.more h hB
theorem LiesI.nil {w : World} {B : Nat} {A : Option Addr} : LiesI w B A [] := Lies.nil _ _ _ _
theorem LiesI.at_ {w : World} {B : Nat} {A : Option Addr} {l : List Int} (h : LiesI w B A l) {k : Nat} {x : Int} (ha : l[k]? = some x) :
    ∃ b off, A = some ⟨b, off, none⟩ ∧ b < B ∧ ∀ k x, l[k]? = some x → w.cell? ⟨b, off + k, none⟩ = some (.int .i64 x) := by
  have hne : l.map irow ≠ [] := by
    intro h0
    have : l = [] := by simpa using h0
    subst this
    simp at ha
  obtain ⟨b, off, e, hb, hc⟩ := h hne
  refine ⟨b, off, e, hb, fun k x ha => ?_⟩
  have hr : (l.map irow)[k]? = some (irow x) := by simp [ha]
  have := hc k _ hr 0 _ rfl
  simpa using this
def flatI (l : List Int) : List Value := l.flatMap irow
theorem flatI_one (l : List Int) : ∀ u ∈ flatI l, u.oneCell' = true := fun u hu => by
  obtain ⟨a, _, h⟩ := List.mem_flatMap.1 hu
  simp only [irow, List.mem_cons, List.not_mem_nil, or_false] at h
  subst h; rfl
theorem flatI_len (l : List Int) : (flatI l).length = l.length := by
  have := flat_len (f := irow) irow_len l
  unfold flatI; omega
theorem own_I {w : World} {base n c : Nat} {t : TypeId} {A : Option Addr} {l : List Int} (h : w.ownsRow base t 1 (.slice A n c) l.length (flatI l)) : LiesI w w.heap.size A l := by
  obtain ⟨A', c', e, h1, _⟩ := own_lies (f := irow) irow_len h
  injection e with e _ _
  subst e
  exact h1
theorem own_liesI {w : World} {base : Nat} {t : TypeId} {v : Value} {l : List Int} (h : w.ownsRow base t 1 v l.length (flatI l)) : ∃ A c, v = .slice A l.length c ∧ LiesI w w.heap.size A l := by
  obtain ⟨A, c, e, h1, _⟩ := own_lies (f := irow) irow_len h
  exact ⟨A, c, e, h1⟩
end Go.Proofs.Ytepamedbbbfjkaa
