/- What an argument's reading says of its cells, for types made of integers, bools, strings, structs and slices. Generic: no program's numbers. -/
import Derived.Test.YtepamedbbbfjkaaRows
import Derived.Test.YtepamedbbbfjkaaMem
import Derived.WalkKit
import Derived.ProofKit
import Derived.OpenShut
import Derived.Carry
import Derived.ChangeSame
import Derived.Deep.Slices
namespace Go.Proofs.Ytepamedbbbfjkaa
open Go.RowKit Go.ChangeShapes Go.WideShapes Go.Deep

/-- Shapes of types; the fields of a struct by 'nil' and 'cons'. -/
inductive Ty where
  | int (k : IntKind)
  | bool
  | str
  | slice (e : Ty)
  | struct (l : Ty)
  | nil
  | cons (a l : Ty)

def Ty.cells : Ty → Nat
  | .int _ | .bool | .str | .slice _ => 1
  | .struct l => l.cells
  | .nil => 0
  | .cons a l => a.cells + l.cells

mutual
def Ty.fits (P : Program) : Ty → TypeId → Bool
  | .int k, t => match P.underlying t with
    | some (.int k') => decide (k = k')
    | _ => false
  | .bool, t => match P.underlying t with
    | some .bool => true
    | _ => false
  | .str, t => match P.underlying t with
    | some .string => true
    | _ => false
  | .slice e, t => match P.underlying t with
    | some (.slice u) => e.fits P u && P.cellsOf u == e.cells
    | _ => false
  | .struct l, t => match P.underlying t with
    | some (.struct fs) => l.fitsF P fs.toList 0
    | _ => false
  | .nil, _ => false
  | .cons _ _, _ => false
def Ty.fitsF (P : Program) : Ty → List Field → Nat → Bool
  | .nil, [], _ => true
  | .cons a l, f :: fs, off => f.offset == off && (P.cellsOf f.type == a.cells && (a.fits P f.type && l.fitsF P fs (off + a.cells)))
  | _, _, _ => false
end

/-- The cells cs hold a value of that shape. -/
def Ty.holds (w : World) : Ty → List Value → Prop
  | .int k, cs => ∃ n, cs = [.int k n] ∧ (Lit.int k n).wf = true
  | .bool, cs => ∃ b, cs = [.bool b]
  | .str, cs => ∃ s : ByteArray, cs = [.string s] ∧ s.size ≤ maxLen
  | .slice e, cs => ∃ A n c, cs = [.slice A n c] ∧ n ≤ c ∧ c ≤ maxLen ∧ (A = none → n = 0) ∧ ∀ a, A = some a → ∀ i, i < n → ∃ es, es.length = e.cells ∧ e.holds w es ∧ ∀ j u, es[j]? = some u → w.cell? (a.add (i * e.cells + j)) = some u
  | .struct l, cs => l.holds w cs
  | .nil, _ => True
  | .cons a l, cs => a.holds w (cs.take a.cells) ∧ l.holds w (cs.drop a.cells)

section
variable {H : Type} {enc : TypeId × Value → H} {P : Program} {w : World} {base : Nat} {spare : Nat → Bool} {held : Bool}

theorem add_add_ (a : Addr) (i j : Nat) : (a.add i).add j = a.add (i + j) := (Go.Deep.add_add a i j)

mutual
theorem Ty.holds_of : ∀ (τ : Ty) (t : TypeId) (fuel : Nat) (cs : List Value) (x : DataW H × List MemPlace), τ.fits P t = true → DataW.trod enc P w base spare held fuel t cs = some x → τ.holds w cs
  | .int k, t, fuel, cs, x, hf, h => by
    simp only [Ty.fits] at hf
    split at hf
    · rename_i k' hu
      obtain rfl : k = k' := by simpa using hf
      obtain ⟨n, e, _, hw⟩ := DataW.trod_int hu h
      exact ⟨n, e, hw⟩
    · cases hf
  | .bool, t, fuel, cs, x, hf, h => by
    simp only [Ty.fits] at hf
    split at hf
    · rename_i hu
      obtain ⟨n, e, _⟩ := DataW.trod_bool hu h
      exact ⟨n, e⟩
    · cases hf
  | .str, t, fuel, cs, x, hf, h => by
    simp only [Ty.fits] at hf
    split at hf
    · rename_i hu
      obtain ⟨n, e, _, hl⟩ := DataW.trod_string hu h
      exact ⟨n, e, hl⟩
    · cases hf
  | .slice e, t, fuel, cs, x, hf, h => by
    simp only [Ty.fits] at hf
    split at hf
    · rename_i u hu
      simp only [Bool.and_eq_true, beq_iff_eq] at hf
      obtain ⟨hfe, hce⟩ := hf
      rcases open_slice hu h with ⟨rfl, _⟩ | ⟨a, len, cap, m, n, D, Pl, rfl, hb, hl, hm, hmm, _, hel⟩
      · exact ⟨none, 0, 0, rfl, Nat.le_refl _, Nat.zero_le _, fun _ => rfl, fun a ha => by cases ha⟩
      · refine ⟨some a, len, cap, rfl, hl, hm, fun h0 => (by cases h0), fun a' ha i hi => ?_⟩
        cases ha
        have him : i < m := by rw [hmm]; split <;> omega
        obtain ⟨cs', hc, ht⟩ := hel i him
        rw [hce] at hc
        obtain ⟨_, hlen, hat⟩ := World.cells?_some hc
        refine ⟨cs', hlen, Ty.holds_of e u n cs' _ hfe ht, fun j v hv => ?_⟩
        have hj : j < e.cells := by rw [← hlen]; exact (List.getElem?_eq_some_iff.1 hv).1
        have := hat j hj
        rw [add_add_] at this
        rw [this, hv]
    · cases hf
  | .struct l, t, fuel, cs, x, hf, h => by
    simp only [Ty.fits] at hf
    split at hf
    · rename_i fs hu
      obtain ⟨xs, n, _, _, _, hlen, hff⟩ := DataW.trod_struct hu h
      have := Ty.holds_ofF l fs.toList 0 cs n hf (fun f hm => by
        obtain ⟨i, hi, e⟩ := List.getElem_of_mem hm
        have hi' : i < fs.size := by simpa using hi
        have h1 : fs[i]? = some f := by rw [Array.getElem?_eq_getElem hi']; simpa using e
        have h2 := hff i f h1
        rw [List.getElem?_eq_getElem (by omega)] at h2
        exact ⟨_, h2⟩)
      simpa [Ty.holds] using this
    · cases hf
  | .nil, _, _, _, _, hf, _ => by simp [Ty.fits] at hf
  | .cons _ _, _, _, _, _, hf, _ => by simp [Ty.fits] at hf
theorem Ty.holds_ofF : ∀ (l : Ty) (fs : List Field) (off : Nat) (cs : List Value) (n : Nat), l.fitsF P fs off = true → (∀ f ∈ fs, ∃ y, DataW.trod enc P w base spare held n f.type ((cs.drop f.offset).take (P.cellsOf f.type)) = some y) → l.holds w (cs.drop off)
  | .nil, _, _, _, _, _, _ => by simp [Ty.holds]
  | .cons a l, [], _, _, _, hf, _ => by simp [Ty.fitsF] at hf
  | .cons a l, f :: fs, off, cs, n, hf, h => by
    simp only [Ty.fitsF, Bool.and_eq_true, beq_iff_eq] at hf
    obtain ⟨h1, h2, h3, h4⟩ := hf
    obtain ⟨y, hy⟩ := h f List.mem_cons_self
    rw [h1, h2] at hy
    refine ⟨Ty.holds_of a f.type n _ _ h3 hy, ?_⟩
    rw [List.drop_drop]
    exact Ty.holds_ofF l fs (off + a.cells) cs n h4 fun g hg => h g (List.mem_cons_of_mem _ hg)
  | .int _, _, _, _, _, hf, _ => by simp [Ty.fitsF] at hf
  | .bool, _, _, _, _, hf, _ => by simp [Ty.fitsF] at hf
  | .str, _, _, _, _, hf, _ => by simp [Ty.fitsF] at hf
  | .slice _, _, _, _, _, hf, _ => by simp [Ty.fitsF] at hf
  | .struct _, _, _, _, _, hf, _ => by simp [Ty.fitsF] at hf
end

theorem Ty.holds_trod {τ : Ty} {t : TypeId} {v : Value} {d : DataW H} {p : List MemPlace} (hf : τ.fits P t = true) (h : DataW.Trod enc P w base spare held t v d p) : τ.holds w v.cells.toList := by
  obtain ⟨fuel, h⟩ := h
  exact Ty.holds_of τ t fuel _ _ hf h
end

theorem cell_lt {w : World} {a : Addr} {u : Value} (h : w.cell? a = some u) : a.block < w.heap.size ∧ a.spot = none := by
  unfold World.cell? at h
  split at h
  · rename_i c t fr hh
    refine ⟨?_, ?_⟩
    · rcases Nat.lt_or_ge a.block w.heap.size with h' | h'
      · exact h'
      · rw [Array.getElem?_eq_none h'] at hh; cases hh
    · split at h
      · cases h
      · rename_i hs
        cases hsp : a.spot with
        | none => rfl
        | some s => rw [hsp] at hs; simp at hs
  · cases h

/-- A list out of what is known of each index. -/
theorem list_of {α : Type} {Q : Nat → α → Prop} : ∀ (n : Nat), (∀ i, i < n → ∃ x, Q i x) → ∃ l : List α, l.length = n ∧ ∀ i x, l[i]? = some x → Q i x
  | 0, _ => ⟨[], rfl, fun i x h => by simp at h⟩
  | n + 1, h => by
    obtain ⟨l, hl, hq⟩ := list_of n fun i hi => h i (by omega)
    obtain ⟨x, hx⟩ := h n (by omega)
    refine ⟨l ++ [x], by simp [hl], fun i y hy => ?_⟩
    rcases Nat.lt_or_ge i n with hi | hi
    · rw [List.getElem?_append_left (by omega)] at hy
      exact hq i y hy
    · rw [List.getElem?_append_right (by omega)] at hy
      obtain rfl : i = n := by
        rcases Nat.lt_or_ge (i - l.length) 1 with h1 | h1
        · omega
        · rw [List.getElem?_eq_none (by simpa using h1)] at hy; cases hy
      rw [hl, Nat.sub_self] at hy
      simp at hy
      subst hy
      exact hx

/-- A slice of structs, read by f: the rows of a list. -/
theorem Lies_of {α : Type} {f : α → List Value} {w : World} {e : Ty} {A : Option Addr} {n : Nat} (hz : 0 < e.cells) (hnil : A = none → n = 0) (hr : ∀ es, es.length = e.cells → e.holds w es → ∃ x, es = f x)
    (h : ∀ a, A = some a → ∀ i, i < n → ∃ es, es.length = e.cells ∧ e.holds w es ∧ ∀ j u, es[j]? = some u → w.cell? (a.add (i * e.cells + j)) = some u) :
    ∃ l : List α, l.length = n ∧ Lies w w.heap.size e.cells A (l.map f) := by
  cases A with
  | none => exact ⟨[], (hnil rfl).symm, Lies.nil _ _ _ _⟩
  | some a =>
    obtain ⟨l, hl, hq⟩ := list_of (Q := fun i x => (f x).length = e.cells ∧ ∀ j u, (f x)[j]? = some u → w.cell? (a.add (i * e.cells + j)) = some u) n fun i hi => by
      obtain ⟨es, h1, h2, h3⟩ := h a rfl i hi
      obtain ⟨x, rfl⟩ := hr es h1 h2
      exact ⟨x, h1, h3⟩
    refine ⟨l, hl, fun hne => ?_⟩
    have h0 : 0 < l.length := by
      rcases Nat.eq_zero_or_pos l.length with h0 | h0
      · exact absurd (by rw [List.eq_nil_of_length_eq_zero h0]; rfl) hne
      · exact h0
    obtain ⟨x0, hx0⟩ := get_of_lt h0
    obtain ⟨hlen0, hc0⟩ := hq 0 x0 hx0
    obtain ⟨u0, hu0⟩ := get_of_lt (l := f x0) (k := 0) (by rw [hlen0]; exact hz)
    have hcell := hc0 0 u0 hu0
    rw [show 0 * e.cells + 0 = 0 by omega] at hcell
    have ha0 : a.add 0 = a := by simp [Addr.add]
    rw [ha0] at hcell
    obtain ⟨hlt, hsp⟩ := cell_lt hcell
    obtain ⟨b, off, sp⟩ := a
    dsimp only at hsp hlt
    subst hsp
    refine ⟨b, off, rfl, hlt, fun k row hk j u hu => ?_⟩
    rw [List.getElem?_map] at hk
    cases hlk : l[k]? with
    | none => rw [hlk] at hk; cases hk
    | some x =>
      rw [hlk] at hk
      obtain rfl : f x = row := by simpa using hk
      have := (hq k x hlk).2 j u hu
      have ea : (⟨b, off, none⟩ : Addr).add (k * e.cells + j) = ⟨b, off + k * e.cells + j, none⟩ := by
        unfold Addr.add
        split
        · rename_i hz; rw [show off + k * e.cells + j = off by omega]
        · simp [Nat.add_assoc]
      rw [ea] at this
      exact this

end Go.Proofs.Ytepamedbbbfjkaa
