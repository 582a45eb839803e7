import Derived.WalkKit
import Derived.ProofKit
import Derived.OpenShut
import Derived.Carry
import Derived.ChangeSame
import Derived.Deep.Slices
import Derived.Test.YtkdigdnacggknaaRows
import Derived.Test.YtkdigdnacggknaaZPure
import Derived.Test.YtkdigdnacggknaaZAvNt
import Derived.Test.YtkdigdnacggknaaZAvM
/- What an argument's reading says of its cells, for types made of integers, bools, strings, structs and slices. Generic: no program's numbers. -/
namespace Go.Proofs.Ytkdigdnacggknaa
open Go.RowKit Go.ChangeShapes Go.WideShapes Go.Deep

/-- Shapes of types; the fields of a struct by 'nil' and 'cons'. -/
inductive Ty where
  | int (k : IntKind)
  | bool
  | str
  | slice (e : Ty)
  | struct (l : Ty)
  | nil
  | cons (a l : Ty)

def Ty.cells : Ty → Nat
  | .int _ | .bool | .str | .slice _ => 1
  | .struct l => l.cells
  | .nil => 0
  | .cons a l => a.cells + l.cells

mutual
def Ty.fits (P : Program) : Ty → TypeId → Bool
  | .int k, t => match P.underlying t with
    | some (.int k') => decide (k = k')
    | _ => false
  | .bool, t => match P.underlying t with
    | some .bool => true
    | _ => false
  | .str, t => match P.underlying t with
    | some .string => true
    | _ => false
  | .slice e, t => match P.underlying t with
    | some (.slice u) => e.fits P u && P.cellsOf u == e.cells
    | _ => false
  | .struct l, t => match P.underlying t with
    | some (.struct fs) => l.fitsF P fs.toList 0
    | _ => false
  | .nil, _ => false
  | .cons _ _, _ => false
def Ty.fitsF (P : Program) : Ty → List Field → Nat → Bool
  | .nil, [], _ => true
  | .cons a l, f :: fs, off => f.offset == off && (P.cellsOf f.type == a.cells && (a.fits P f.type && l.fitsF P fs (off + a.cells)))
  | _, _, _ => false
end

/-- The cells cs hold a value of that shape. -/
def Ty.holds (w : World) : Ty → List Value → Prop
  | .int k, cs => ∃ n, cs = [.int k n] ∧ (Lit.int k n).wf = true
  | .bool, cs => ∃ b, cs = [.bool b]
  | .str, cs => ∃ s : ByteArray, cs = [.string s] ∧ s.size ≤ maxLen
  | .slice e, cs => ∃ A n c, cs = [.slice A n c] ∧ n ≤ c ∧ c ≤ maxLen ∧ (A = none → n = 0) ∧ ∀ a, A = some a → ∀ i, i < n → ∃ es, es.length = e.cells ∧ e.holds w es ∧ ∀ j u, es[j]? = some u → w.cell? (a.add (i * e.cells + j)) = some u
  | .struct l, cs => l.holds w cs
  | .nil, _ => True
  | .cons a l, cs => a.holds w (cs.take a.cells) ∧ l.holds w (cs.drop a.cells)

section
variable {H : Type} {enc : TypeId × Value → H} {P : Program} {w : World} {base : Nat} {spare : Nat → Bool} {held : Bool}

theorem add_add_ (a : Addr) (i j : Nat) : (a.add i).add j = a.add (i + j) := (Go.Deep.add_add a i j)

mutual
theorem Ty.holds_of : ∀ (τ : Ty) (t : TypeId) (fuel : Nat) (cs : List Value) (x : DataW H × List MemPlace), τ.fits P t = true → DataW.trod enc P w base spare held fuel t cs = some x → τ.holds w cs
  | .int k, t, fuel, cs, x, hf, h => by
    simp only [Ty.fits] at hf
    split at hf
    · rename_i k' hu
      obtain rfl : k = k' := by simpa using hf
      obtain ⟨n, e, _, hw⟩ := DataW.trod_int hu h
      exact ⟨n, e, hw⟩
    · cases hf
  | .bool, t, fuel, cs, x, hf, h => by
    simp only [Ty.fits] at hf
    split at hf
    · rename_i hu
      obtain ⟨n, e, _⟩ := DataW.trod_bool hu h
      exact ⟨n, e⟩
    · cases hf
  | .str, t, fuel, cs, x, hf, h => by
    simp only [Ty.fits] at hf
    split at hf
    · rename_i hu
      obtain ⟨n, e, _, hl⟩ := DataW.trod_string hu h
      exact ⟨n, e, hl⟩
    · cases hf
  | .slice e, t, fuel, cs, x, hf, h => by
    simp only [Ty.fits] at hf
    split at hf
    · rename_i u hu
      simp only [Bool.and_eq_true, beq_iff_eq] at hf
      obtain ⟨hfe, hce⟩ := hf
      rcases open_slice hu h with ⟨rfl, _⟩ | ⟨a, len, cap, m, n, D, Pl, rfl, hb, hl, hm, hmm, _, hel⟩
      · exact ⟨none, 0, 0, rfl, Nat.le_refl _, Nat.zero_le _, fun _ => rfl, fun a ha => by cases ha⟩
      · refine ⟨some a, len, cap, rfl, hl, hm, fun h0 => (by cases h0), fun a' ha i hi => ?_⟩
        cases ha
        have him : i < m := by rw [hmm]; split <;> omega
        obtain ⟨cs', hc, ht⟩ := hel i him
        rw [hce] at hc
        obtain ⟨_, hlen, hat⟩ := World.cells?_some hc
        refine ⟨cs', hlen, Ty.holds_of e u n cs' _ hfe ht, fun j v hv => ?_⟩
        have hj : j < e.cells := by rw [← hlen]; exact (List.getElem?_eq_some_iff.1 hv).1
        have := hat j hj
        rw [add_add_] at this
        rw [this, hv]
    · cases hf
  | .struct l, t, fuel, cs, x, hf, h => by
    simp only [Ty.fits] at hf
    split at hf
    · rename_i fs hu
      obtain ⟨xs, n, _, _, _, hlen, hff⟩ := DataW.trod_struct hu h
      have := Ty.holds_ofF l fs.toList 0 cs n hf (fun f hm => by
        obtain ⟨i, hi, e⟩ := List.getElem_of_mem hm
        have hi' : i < fs.size := by simpa using hi
        have h1 : fs[i]? = some f := by rw [Array.getElem?_eq_getElem hi']; simpa using e
        have h2 := hff i f h1
        rw [List.getElem?_eq_getElem (by omega)] at h2
        exact ⟨_, h2⟩)
      simpa [Ty.holds] using this
    · cases hf
  | .nil, _, _, _, _, hf, _ => by simp [Ty.fits] at hf
  | .cons _ _, _, _, _, _, hf, _ => by simp [Ty.fits] at hf
theorem Ty.holds_ofF : ∀ (l : Ty) (fs : List Field) (off : Nat) (cs : List Value) (n : Nat), l.fitsF P fs off = true → (∀ f ∈ fs, ∃ y, DataW.trod enc P w base spare held n f.type ((cs.drop f.offset).take (P.cellsOf f.type)) = some y) → l.holds w (cs.drop off)
  | .nil, _, _, _, _, _, _ => by simp [Ty.holds]
  | .cons a l, [], _, _, _, hf, _ => by simp [Ty.fitsF] at hf
  | .cons a l, f :: fs, off, cs, n, hf, h => by
    simp only [Ty.fitsF, Bool.and_eq_true, beq_iff_eq] at hf
    obtain ⟨h1, h2, h3, h4⟩ := hf
    obtain ⟨y, hy⟩ := h f List.mem_cons_self
    rw [h1, h2] at hy
    refine ⟨Ty.holds_of a f.type n _ _ h3 hy, ?_⟩
    rw [List.drop_drop]
    exact Ty.holds_ofF l fs (off + a.cells) cs n h4 fun g hg => h g (List.mem_cons_of_mem _ hg)
  | .int _, _, _, _, _, hf, _ => by simp [Ty.fitsF] at hf
  | .bool, _, _, _, _, hf, _ => by simp [Ty.fitsF] at hf
  | .str, _, _, _, _, hf, _ => by simp [Ty.fitsF] at hf
  | .slice _, _, _, _, _, hf, _ => by simp [Ty.fitsF] at hf
  | .struct _, _, _, _, _, hf, _ => by simp [Ty.fitsF] at hf
end

theorem Ty.holds_trod {τ : Ty} {t : TypeId} {v : Value} {d : DataW H} {p : List MemPlace} (hf : τ.fits P t = true) (h : DataW.Trod enc P w base spare held t v d p) : τ.holds w v.cells.toList := by
  obtain ⟨fuel, h⟩ := h
  exact Ty.holds_of τ t fuel _ _ hf h
end

theorem cell_lt {w : World} {a : Addr} {u : Value} (h : w.cell? a = some u) : a.block < w.heap.size ∧ a.spot = none := by
  unfold World.cell? at h
  split at h
  · rename_i c t fr hh
    refine ⟨?_, ?_⟩
    · rcases Nat.lt_or_ge a.block w.heap.size with h' | h'
      · exact h'
      · rw [Array.getElem?_eq_none h'] at hh; cases hh
    · split at h
      · cases h
      · rename_i hs
        cases hsp : a.spot with
        | none => rfl
        | some s => rw [hsp] at hs; simp at hs
  · cases h

/-- A list out of what is known of each index. -/
theorem list_of {α : Type} {Q : Nat → α → Prop} : ∀ (n : Nat), (∀ i, i < n → ∃ x, Q i x) → ∃ l : List α, l.length = n ∧ ∀ i x, l[i]? = some x → Q i x
  | 0, _ => ⟨[], rfl, fun i x h => by simp at h⟩
  | n + 1, h => by
    obtain ⟨l, hl, hq⟩ := list_of n fun i hi => h i (by omega)
    obtain ⟨x, hx⟩ := h n (by omega)
    refine ⟨l ++ [x], by simp [hl], fun i y hy => ?_⟩
    rcases Nat.lt_or_ge i n with hi | hi
    · rw [List.getElem?_append_left (by omega)] at hy
      exact hq i y hy
    · rw [List.getElem?_append_right (by omega)] at hy
      obtain rfl : i = n := by
        rcases Nat.lt_or_ge (i - l.length) 1 with h1 | h1
        · omega
        · rw [List.getElem?_eq_none (by simpa using h1)] at hy; cases hy
      rw [hl, Nat.sub_self] at hy
      simp at hy
      subst hy
      exact hx

/-- A slice of structs, read by f: the rows of a list. -/
theorem Lies_of {α : Type} {f : α → List Value} {w : World} {e : Ty} {A : Option Addr} {n : Nat} (hz : 0 < e.cells) (hnil : A = none → n = 0) (hr : ∀ es, es.length = e.cells → e.holds w es → ∃ x, es = f x)
    (h : ∀ a, A = some a → ∀ i, i < n → ∃ es, es.length = e.cells ∧ e.holds w es ∧ ∀ j u, es[j]? = some u → w.cell? (a.add (i * e.cells + j)) = some u) :
    ∃ l : List α, l.length = n ∧ Lies w w.heap.size e.cells A (l.map f) := by
  cases A with
  | none => exact ⟨[], (hnil rfl).symm, Lies.nil _ _ _ _⟩
  | some a =>
    obtain ⟨l, hl, hq⟩ := list_of (Q := fun i x => (f x).length = e.cells ∧ ∀ j u, (f x)[j]? = some u → w.cell? (a.add (i * e.cells + j)) = some u) n fun i hi => by
      obtain ⟨es, h1, h2, h3⟩ := h a rfl i hi
      obtain ⟨x, rfl⟩ := hr es h1 h2
      exact ⟨x, h1, h3⟩
    refine ⟨l, hl, fun hne => ?_⟩
    have h0 : 0 < l.length := by
      rcases Nat.eq_zero_or_pos l.length with h0 | h0
      · exact absurd (by rw [List.eq_nil_of_length_eq_zero h0]; rfl) hne
      · exact h0
    obtain ⟨x0, hx0⟩ := get_of_lt h0
    obtain ⟨hlen0, hc0⟩ := hq 0 x0 hx0
    obtain ⟨u0, hu0⟩ := get_of_lt (l := f x0) (k := 0) (by rw [hlen0]; exact hz)
    have hcell := hc0 0 u0 hu0
    rw [show 0 * e.cells + 0 = 0 by omega] at hcell
    have ha0 : a.add 0 = a := by simp [Addr.add]
    rw [ha0] at hcell
    obtain ⟨hlt, hsp⟩ := cell_lt hcell
    obtain ⟨b, off, sp⟩ := a
    dsimp only at hsp hlt
    subst hsp
    refine ⟨b, off, rfl, hlt, fun k row hk j u hu => ?_⟩
    rw [List.getElem?_map] at hk
    cases hlk : l[k]? with
    | none => rw [hlk] at hk; cases hk
    | some x =>
      rw [hlk] at hk
      obtain rfl : f x = row := by simpa using hk
      have := (hq k x hlk).2 j u hu
      have ea : (⟨b, off, none⟩ : Addr).add (k * e.cells + j) = ⟨b, off + k * e.cells + j, none⟩ := by
        unfold Addr.add
        split
        · rename_i hz; rw [show off + k * e.cells + j = off by omega]
        · simp [Nat.add_assoc]
      rw [ea] at this
      exact this

end Go.Proofs.Ytkdigdnacggknaa
/- Arguments of the laws of the monitor, opened. -/
namespace Go.Proofs.Ytkdigdnacggknaa
open Go.RowKit
open Nd Rc Mo
open Av
set_option maxRecDepth 100000
set_option linter.unusedSimpArgs false
open Go.ChangeShapes Go.WideShapes Go.ChangeAt

def cellR (w : World) : Reader := fun p => w.cell? p
theorem RepL.get {R : Reader} {ps : List PV} {us : List Value} (h : RepL R ps us) : us.length = ps.length ∧ ∀ (j : Nat) (p : PV), ps[j]? = some p → ∃ u, us[j]? = some u ∧ RepP R p u := by
  induction h with
  | nil => exact ⟨rfl, fun j p h => by simp at h⟩
  | cons h t ih =>
    refine ⟨by simp [ih.1], fun j p hj => ?_⟩
    cases j with
    | zero =>
      simp only [List.getElem?_cons_zero, Option.some.injEq] at hj
      subst hj
      exact ⟨_, rfl, h⟩
    | succ j => exact ih.2 j p (by simpa using hj)
/-- A slice, read by f. -/
theorem rep_of_slice {α : Type} {f : α → List PV} {w : World} {e : Ty} {A : Option Addr} {n c : Nat} (hz : 0 < e.cells) (hnc : n ≤ c) (hnil : A = none → n = 0) (hr : ∀ es, es.length = e.cells → e.holds w es → ∃ x, RepL (cellR w) (f x) es)
    (h : ∀ a, A = some a → ∀ i, i < n → ∃ es, es.length = e.cells ∧ e.holds w es ∧ ∀ j u, es[j]? = some u → w.cell? (a.add (i * e.cells + j)) = some u) :
    ∃ l : List α, l.length = n ∧ RepP (cellR w) (.sl e.cells (l.map f)) (.slice A n c) := by
  cases A with
  | none =>
    obtain rfl := hnil rfl
    exact ⟨[], rfl, .sl e.cells [] none c (fun _ _ => undef) (fun k row hk => by simp at hk) (.inl rfl) (fun k row j p hk => by simp at hk) (Nat.zero_le _)⟩
  | some a =>
    obtain ⟨l, hl, hq⟩ := list_of (Q := fun i x => ∃ es, es.length = e.cells ∧ RepL (cellR w) (f x) es ∧ ∀ j u, es[j]? = some u → w.cell? (a.add (i * e.cells + j)) = some u) n fun i hi => by
      obtain ⟨es, h1, h2, h3⟩ := h a rfl i hi
      obtain ⟨x, hx⟩ := hr es h1 h2
      exact ⟨x, es, h1, hx, h3⟩
    refine ⟨l, hl, ?_⟩
    have hrow : ∀ (k : Nat) (row : List PV), (l.map f)[k]? = some row → row.length = e.cells ∧ ∀ (j : Nat) (p : PV), row[j]? = some p → ∃ u, w.cell? (a.add (k * e.cells + j)) = some u ∧ RepP (cellR w) p u := fun k row hk => by
      rw [List.getElem?_map] at hk
      cases hx : l[k]? with
      | none => rw [hx] at hk; cases hk
      | some x =>
        rw [hx] at hk
        obtain rfl := Option.some.inj hk
        obtain ⟨es, h1, h2, h3⟩ := hq k x hx
        obtain ⟨g1, g2⟩ := RepL.get h2
        refine ⟨by rw [← g1, h1], fun j p hj => ?_⟩
        obtain ⟨u, hu, hp⟩ := g2 j p hj
        exact ⟨u, h3 j u hu, hp⟩
    have hlen : n = (l.map f).length := by rw [List.length_map, hl]
    rw [hlen]
    refine .sl e.cells (l.map f) (some a) c (fun k j => (w.cell? (a.add (k * e.cells + j))).getD undef) (fun k row hk => (hrow k row hk).1) ?_ (fun k row j p hk hj => ?_) (by rw [← hlen]; exact hnc)
    · by_cases hn : l = []
      · exact .inl (by rw [hn]; rfl)
      · right
        have h0 : 0 < l.length := by
          rcases Nat.eq_zero_or_pos l.length with h0 | h0
          · exact absurd (List.eq_nil_of_length_eq_zero h0) hn
          · exact h0
        obtain ⟨x0, hx0⟩ := get_of_lt h0
        obtain ⟨q1, q2⟩ := hrow 0 (f x0) (by rw [List.getElem?_map, hx0]; rfl)
        obtain ⟨p0, hp0⟩ := get_of_lt (l := f x0) (k := 0) (by rw [q1]; exact hz)
        obtain ⟨u0, hu0, _⟩ := q2 0 p0 hp0
        have ha0 : a.add 0 = a := by simp [Addr.add]
        rw [show 0 * e.cells + 0 = 0 by omega, ha0] at hu0
        obtain ⟨_, hsp⟩ := cell_lt hu0
        obtain ⟨b, off, sp⟩ := a
        dsimp only at hsp
        subst hsp
        have hadd : ∀ i : Nat, (⟨b, off, none⟩ : Addr).add i = ⟨b, off + i, none⟩ := fun i => by
          unfold Addr.add
          split
          · rename_i h0; rw [h0]; rfl
          · rfl
        refine ⟨b, off, rfl, fun k row j p hk hj => ?_⟩
        obtain ⟨u, hu, _⟩ := (hrow k row hk).2 j p hj
        rw [hu]
        rw [hadd, ← Nat.add_assoc] at hu
        exact hu
    · obtain ⟨u, hu, hp⟩ := (hrow k row hk).2 j p hj
      rw [hu]; exact hp
def Ty.qi : Ty := .int .i64
def Ty.qatt : Ty := .struct (.cons .qi (.cons .qi (.cons (.struct (.cons .qi (.cons .qi (.cons .qi (.cons .qi (.cons .qi .nil)))))) (.cons .qi .nil))))
def Ty.qdlv : Ty := .struct (.cons .qi (.cons .qi (.cons .qi .nil)))
def Ty.qrec : Ty := .struct (.cons .qi (.cons (.struct (.cons (.slice .qatt) (.cons (.slice .qdlv) .nil))) .nil))
def Ty.qflow : Ty := .struct (.cons .qi (.cons .qi (.cons .qi (.cons .qi (.cons .qi (.cons .qi .nil))))))
def Ty.qnet : Ty := .struct (.cons .qi (.cons (.slice (.slice .qi)) (.cons .qi (.cons .qi (.cons (.slice .qdlv) (.cons (.slice .qi) .nil))))))
theorem Try.fitsQrec : Ty.qrec.fits Try.prog 28 = true := by kernel_rfl
theorem Try.fitsQflows : (Ty.slice .qflow).fits Try.prog 22 = true := by kernel_rfl
theorem Try.fitsQnet : Ty.qnet.fits Try.prog 44 = true := by kernel_rfl
theorem qatt_of {w : World} (es : List Value) (hl : es.length = Ty.qatt.cells) (h : Ty.qatt.holds w es) : ∃ a : Att, RepL (cellR w) a.pv es := by
  match es, hl with
  | [c0, c1, c2, c3, c4, c5, c6, c7], _ =>
    simp only [Ty.qatt, Ty.qi, Ty.holds, Ty.cells, List.take, List.drop] at h
    obtain ⟨⟨n0, h0, _⟩, ⟨n1, h1, _⟩, ⟨⟨n2, h2, _⟩, ⟨n3, h3, _⟩, ⟨n4, h4, _⟩, ⟨n5, h5, _⟩, ⟨n6, h6, _⟩, _⟩, ⟨n7, h7, _⟩, _⟩ := h
    simp only [List.cons.injEq, and_true] at h0 h1 h2 h3 h4 h5 h6 h7
    subst h0 h1 h2 h3 h4 h5 h6 h7
    exact ⟨⟨n0, n1, n2, n3, n4, n5, n6, n7⟩, .cons (.v _ rfl) (.cons (.v _ rfl) (.cons (.v _ rfl) (.cons (.v _ rfl) (.cons (.v _ rfl) (.cons (.v _ rfl) (.cons (.v _ rfl) (.cons (.v _ rfl) .nil)))))))⟩
theorem qdlv_of {w : World} (es : List Value) (hl : es.length = Ty.qdlv.cells) (h : Ty.qdlv.holds w es) : ∃ a : Dlv, RepL (cellR w) a.pv es := by
  match es, hl with
  | [c0, c1, c2], _ =>
    simp only [Ty.qdlv, Ty.qi, Ty.holds, Ty.cells, List.take, List.drop] at h
    obtain ⟨⟨n0, h0, _⟩, ⟨n1, h1, _⟩, ⟨n2, h2, _⟩, _⟩ := h
    simp only [List.cons.injEq, and_true] at h0 h1 h2
    subst h0 h1 h2
    exact ⟨⟨n0, n1, n2⟩, .cons (.v _ rfl) (.cons (.v _ rfl) (.cons (.v _ rfl) .nil))⟩
theorem qlk_of {w : World} (es : List Value) (hl : es.length = Ty.qdlv.cells) (h : Ty.qdlv.holds w es) : ∃ a : Lk, RepL (cellR w) a.pv es := by
  obtain ⟨⟨x, y, z⟩, h⟩ := qdlv_of es hl h
  exact ⟨⟨x, y, z⟩, h⟩
theorem qint_of {w : World} (es : List Value) (_hl : es.length = Ty.qi.cells) (h : Ty.qi.holds w es) : ∃ a : Int, RepL (cellR w) (irow_pv a) es := by
  obtain ⟨n, rfl, _⟩ := h
  exact ⟨n, .cons (.v _ rfl) .nil⟩
theorem qflow_of {w : World} (es : List Value) (hl : es.length = Ty.qflow.cells) (h : Ty.qflow.holds w es) : ∃ a : Fl, RepL (cellR w) a.pv es := by
  match es, hl with
  | [c0, c1, c2, c3, c4, c5], _ =>
    simp only [Ty.qflow, Ty.qi, Ty.holds, Ty.cells, List.take, List.drop] at h
    obtain ⟨⟨n0, h0, _⟩, ⟨n1, h1, _⟩, ⟨n2, h2, _⟩, ⟨n3, h3, _⟩, ⟨n4, h4, _⟩, ⟨n5, h5, _⟩, _⟩ := h
    simp only [List.cons.injEq, and_true] at h0 h1 h2 h3 h4 h5
    subst h0 h1 h2 h3 h4 h5
    exact ⟨⟨n0, n1, n2, n3, n4, n5⟩, .cons (.v _ rfl) (.cons (.v _ rfl) (.cons (.v _ rfl) (.cons (.v _ rfl) (.cons (.v _ rfl) (.cons (.v _ rfl) .nil)))))⟩
theorem qpow_of {w : World} (es : List Value) (_hl : es.length = (Ty.slice .qi).cells) (h : (Ty.slice .qi).holds w es) : ∃ a : List Int, RepL (cellR w) (prow_pv a) es := by
  obtain ⟨A, n, c, rfl, hc, hm, hn, he⟩ := h
  obtain ⟨l, _, hr⟩ := rep_of_slice (f := irow_pv) (e := Ty.qi) (by decide) hc hn qint_of he
  exact ⟨l, .cons hr .nil⟩
section
variable {H : Type} {enc : TypeId × Value → H} {W : World} {base : Nat} {spare : Nat → Bool} {held : Bool} {r : Reach} {b0 : Nat} {v : Value} {d : DataW H} {p : List MemPlace}
theorem open_flowsP (hv : Value.okWide Try.prog W r b0 22 v) (h : DataW.Trod enc Try.prog W base spare held 22 v d p) : ∃ fs : List Fl, RepA (cellR W) (fun _ => 0) (.sl 6 (fs.map Fl.pv)) v := by
  obtain ⟨a, len, cap, rfl⟩ := okWide_slice Try.underlying22 hv
  have hh := Ty.holds_trod (τ := .slice .qflow) Try.fitsQflows h
  obtain ⟨A, n, c, h1, hc, hm, hn, he⟩ := hh
  simp only [Value.cells, List.cons.injEq, and_true, Value.slice.injEq] at h1
  obtain ⟨rfl, rfl, rfl⟩ := h1
  obtain ⟨l, _, hr⟩ := rep_of_slice (f := Fl.pv) (e := Ty.qflow) (by decide) hc hn qflow_of he
  exact ⟨l, hr⟩
theorem open_recP (hv : Value.okWide Try.prog W r b0 28 v) (h : DataW.Trod enc Try.prog W base spare held 28 v d p) : ∃ q : Rec, RepA (cellR W) (fun _ => 0) (.agg q.pv) v := by
  obtain ⟨cs, rfl, hsz⟩ := okWide_struct Try.underlying28 hv
  have hh := Ty.holds_trod (τ := Ty.qrec) Try.fitsQrec h
  obtain ⟨l⟩ := cs
  match l, hsz with
  | [c0, c1, c2], _ =>
    simp only [Value.cells, Ty.qrec, Ty.qi, Ty.holds, Ty.cells, List.take, List.drop] at hh
    obtain ⟨⟨n0, h0, w0⟩, ⟨⟨A, n, ca, h1, hc1, hm1, hn1, he1⟩, ⟨D, m, cd, h2, hc2, hm2, hn2, he2⟩, _⟩, _⟩ := hh
    simp only [List.cons.injEq, and_true] at h0 h1 h2
    subst h0 h1 h2
    obtain ⟨la, _, lA⟩ := rep_of_slice (f := Att.pv) (e := Ty.qatt) (by decide) hc1 hn1 qatt_of he1
    obtain ⟨ld, _, lD⟩ := rep_of_slice (f := Dlv.pv) (e := Ty.qdlv) (by decide) hc2 hn2 qdlv_of he2
    exact ⟨⟨n0, la, ld⟩, _, rfl, .cons (.v _ rfl) (.cons lA (.cons lD .nil))⟩
theorem open_netP (hv : Value.okWide Try.prog W r b0 44 v) (h : DataW.Trod enc Try.prog W base spare held 44 v d p) : ∃ q : Net, RepA (cellR W) (fun _ => 0) (.agg q.pv) v := by
  obtain ⟨cs, rfl, hsz⟩ := okWide_struct Try.underlying44 hv
  have hh := Ty.holds_trod (τ := Ty.qnet) Try.fitsQnet h
  obtain ⟨l⟩ := cs
  match l, hsz with
  | [c0, c1, c2, c3, c4, c5], _ =>
    have hh' : Ty.holds W .qi [c0] ∧ Ty.holds W (.slice (.slice .qi)) [c1] ∧ Ty.holds W .qi [c2] ∧ Ty.holds W .qi [c3] ∧ Ty.holds W (.slice .qdlv) [c4] ∧ Ty.holds W (.slice .qi) [c5] ∧ True := hh
    obtain ⟨⟨n0, h0, _⟩, ⟨P, n, cp, h1, hc1, hm1, hn1, he1⟩, ⟨n2, h2, _⟩, ⟨n3, h3, _⟩, ⟨L, m, cl, h4, hc4, hm4, hn4, he4⟩, ⟨G, k, cg, h5, hc5, hm5, hn5, he5⟩, _⟩ := hh'
    simp only [List.cons.injEq, and_true] at h0 h1 h2 h3 h4 h5
    subst h0 h1 h2 h3 h4 h5
    obtain ⟨lp, _, lP⟩ := rep_of_slice (f := prow_pv) (e := Ty.slice .qi) (by decide) hc1 hn1 qpow_of he1
    obtain ⟨ll, _, lL⟩ := rep_of_slice (f := Lk.pv) (e := Ty.qdlv) (by decide) hc4 hn4 qlk_of he4
    obtain ⟨lg, _, lG⟩ := rep_of_slice (f := irow_pv) (e := Ty.qi) (by decide) hc5 hn5 qint_of he5
    exact ⟨⟨n0, n2, n3, lp, ll, lg⟩, _, rfl, .cons (.v _ rfl) (.cons lP (.cons (.v _ rfl) (.cons (.v _ rfl) (.cons lL (.cons lG .nil)))))⟩
end
/-- A law that returns true. -/
theorem calls_true {P : Program} {f : FuncId} {args : List AV} (h : FnOK P f args ⟨bv true, none⟩) (W : World) (us : List Value) (hus : RepAL (cellR W) args us) : Calls P f us.toArray W fun e W' => e = .returned (.bool true) ∧ Below W.heap.size W W' :=
  (h.2 W (cellR W) (fun _ _ h => h) us hus).mono fun e W' hq => by
    obtain ⟨u, rfl, hb, _, hr⟩ := hq
    exact ⟨by rw [show u = .bool true from hr], hb⟩
theorem Try.laidOut : laidOutB Try.prog = true := by kernel_rfl
theorem Try.own : ownKnob Try.prog.godebug = none := by kernel_rfl
section
variable {H : Type} {enc : TypeId × Value → H} {P : Program}
/-- What the row asks behind a call that only made new memory. (After the guide's small lemmas.) -/
theorem post_of_below {f : Func} {s : ChangeSpec} {apart fresh handsOn again : Bool} {W W' : World} {args : Array Value} {v : Value} {ds gs : List (DataW H)} {before pa pv : List MemPlace}
    (hW : DataW.Whole enc P f.params.toList s.vars apart W args.toList ds gs before)
    (hres : ∀ (b : Nat) (sp : Nat → Bool) (hd : Bool), DataW.TrodAll enc P W' b sp hd f.resultTypes.toList (v.resultList f.resultTypes.size) (s.fn H (ds ++ gs)).results [])
    (hargs : ∀ sp : Nat → Bool, (∀ p ∈ before, sp p.block = true) → DataW.TrodAll enc P W' 0 sp true f.params.toList args.toList (s.fn H (ds ++ gs)).args pa)
    (hvars : ∀ sp : Nat → Bool, (∀ p ∈ before, sp p.block = true) → DataW.TrodVars enc P W' sp s.vars (s.fn H (ds ++ gs)).vars pv)
    (hps : before = pa ++ pv) (hb : Below W.heap.size W W')
    (hok : ∀ (j : Nat) (t : TypeId) (r : Value), f.resultTypes[j]? = some t → (v.resultList f.resultTypes.size)[j]? = some r → Value.okWide P W' .any 0 t r) :
    s.post enc P f apart fresh handsOn again W args v W' := by
  have hlt : ∀ p ∈ before, p.block < W.heap.size := fun p hp => hW.lt p hp
  have hold : ∀ p ∈ before, (fun b => decide (b < W.heap.size)) p.block = true := fun p hp => by simpa using hlt p hp
  refine ⟨ds, gs, before, [], pa, pv, hW, hres _ _ _, hargs _ hold, hvars _ hold, World.keptBut_mono (fun p hp => ⟨hp, ?_⟩) (hb.frame (· ∈ before)), fun _ => ?_⟩
  · rw [hps, List.mem_append] at hp
    exact Or.inr hp
  · obtain ⟨_, _, _, _, _, hz, hn⟩ := hW
    refine ⟨hok, _, _, ([] ++ pa) ++ pv, ⟨[] ++ pa, pv, trodAll_append (hargs _ (fun _ _ => rfl)) (hres _ _ _), hvars _ (fun _ _ => rfl), rfl, ?_, ?_⟩, ?_⟩
    · intro b off hp
      have hin : MemPlace.cell b off ∈ before := by rw [hps]; simpa using hp
      rw [hb.frozen (hlt _ hin)]
      exact hz b off hin
    · intro ha
      have := hn ha
      rw [hps] at this
      simpa using this
    · intro p hp _
      rw [hps]
      simpa using hp
end
end Go.Proofs.Ytkdigdnacggknaa
