import Derived.Laws.IdiomCopy
import Derived.Laws.StructEq
import Derived.Test.YtkdigdnacggknaaZAvH
/- Abstract states: operations with effects: a store into a box, a row handed on, an append. Generic. -/
namespace Go.Proofs.Ytkdigdnacggknaa
open Go.RowKit
namespace Av

def setAt {α : Type} (l : List α) (o : Nat) (xs : List α) : List α := l.take o ++ xs ++ l.drop (o + xs.length)
theorem setAt_length {α : Type} {l : List α} {o : Nat} {xs : List α} (h : o + xs.length ≤ l.length) : (setAt l o xs).length = l.length := by
  simp [setAt]; omega
theorem setAt_out {α : Type} {l : List α} {o : Nat} {xs : List α} (h : o + xs.length ≤ l.length) {i : Nat} (hi : i < o ∨ o + xs.length ≤ i) : (setAt l o xs)[i]? = l[i]? := by
  unfold setAt
  rcases hi with hi | hi
  · rw [List.append_assoc, List.getElem?_append_left (by simp; omega), List.getElem?_take, if_pos hi]
  · rw [List.getElem?_append_right (by simp; omega)]
    simp only [List.length_append, List.length_take, List.getElem?_drop]
    congr 1
    omega
theorem RepL.setAt {R : Reader} {ps qs : List PV} {us vs : List Value} (h : RepL R ps us) (h' : RepL R qs vs) (o : Nat) : RepL R (setAt ps o qs) (setAt us o vs) := by
  unfold Av.setAt
  rw [h'.length]
  exact ((h.take o).append h').append (h.drop _)
theorem setCells_block (b : Nat) (ty : TypeId) : ∀ (vs : List Value) (o : Nat) (w : World) (us : List Value), w.heap[b]? = some (.cells us.toArray ty (0, 0)) → o + vs.length ≤ us.length →
    (w.setCells b o vs).heap[b]? = some (.cells (setAt us o vs).toArray ty (0, 0))
  | [], o, w, us, h, _ => by simpa [setAt, World.setCells] using h
  | v :: vs, o, w, us, h, hl => by
    simp only [List.length_cons] at hl
    have h1 : (w.setCell ⟨b, o, none⟩ v).heap[b]? = some (.cells (us.set o v).toArray ty (0, 0)) := by
      simp only [World.setCell, Array.getElem?_modify, if_pos, h]
      simp
    rw [World.setCells, setCells_block b ty vs (o + 1) _ _ h1 (by simp; omega)]
    congr 3
    unfold setAt
    have ho : o < us.length := by omega
    rw [List.take_set, List.drop_set, List.take_succ_eq_append_getElem ho, if_pos (by omega), List.set_append_right _ _ (by simp; omega)]
    simp [Nat.min_eq_left (Nat.le_of_lt ho), Nat.add_assoc, Nat.add_comm 1]
theorem setCells_other (b : Nat) : ∀ (vs : List Value) (o : Nat) (w : World) (k : Nat), k ≠ b → (w.setCells b o vs).heap[k]? = w.heap[k]?
  | [], _, _, _, _ => rfl
  | v :: vs, o, w, k, hk => by
    rw [World.setCells, setCells_other b vs _ _ k hk, Below.heap_setCell _ _ _ _ hk]
theorem setCells_rest (b : Nat) : ∀ (vs : List Value) (o : Nat) (w : World), (w.setCells b o vs).os = w.os ∧ (w.setCells b o vs).tape = w.tape ∧ (w.setCells b o vs).output = w.output ∧ (w.setCells b o vs).heap.size = w.heap.size
  | [], _, _ => ⟨rfl, rfl, rfl, rfl⟩
  | v :: vs, o, w => by
    obtain ⟨h1, h2, h3, h4⟩ := setCells_rest b vs (o + 1) (w.setCell ⟨b, o, none⟩ v)
    exact ⟨h1, h2, h3, h4.trans (by simp [World.setCell])⟩

def St.setBox (σ : St) (k : Nat) (cs : List PV) (own : List (Loc × (TypeId × Nat))) : St := { slot := σ.slot, box := (k, cs) :: σ.box, own, ext := σ.ext }
/-- A box holds other cells. -/
theorem Rel.rebox {F : Fr} {σ : St} {γ : Gh} {a : Act} {w w1 : World} (h : Rel F σ γ a w) {k : Nat} {cs cs' : List PV} {us us' : List Value} {ty : TypeId} (hk : look σ.box k = some cs)
    (hw1 : w1.heap[γ.bx k]? = some (.cells us'.toArray ty (0, 0))) (hw : w.heap[γ.bx k]? = some (.cells us.toArray ty (0, 0))) (hoth : ∀ j, j ≠ γ.bx k → w1.heap[j]? = w.heap[j]?)
    (hos : w1.os = w.os) (htp : w1.tape = w.tape) (hou : w1.output = w.output) (hsz : w1.heap.size = w.heap.size) (hrep : RepL (rdr F.R0 F.w0.heap.size σ γ w) cs' us') {own' : List (Loc × (TypeId × Nat))}
    (ho : ∀ L x, lookL own' L = some x → lookL σ.own L = some x ∧ ∀ off, L = .b k off → cs'[off]? = cs[off]? ∧ us'[off]? = us[off]?) : Rel F (σ.setBox k cs' own') γ a w1 := by
  have hkk : (look σ.box k).isSome := by rw [hk]; rfl
  have hlb : ∀ j, look (σ.setBox k cs' own').box j = if k = j then some cs' else look σ.box j := fun j => look_cons _ _ _ _
  have hav : ∀ L x, lookL own' L = some x → (σ.setBox k cs' own').avAt L = σ.avAt L := fun L x hL => by
    cases L with
    | s t => rfl
    | b j off =>
      simp only [St.avAt, hlb]
      by_cases hj : k = j
      · subst hj
        rw [if_pos rfl, hk]
        simp only [Option.bind_some]
        rw [((ho _ _ hL).2 off rfl).1]
      · rw [if_neg hj]
  have hsome : ∀ L, (lookL own' L).isSome → (lookL σ.own L).isSome := fun L hL => by
    obtain ⟨e, he⟩ := Option.isSome_iff_exists.1 hL
    rw [(ho _ _ he).1]; rfl
  have hbox : ∀ j, (look (σ.setBox k cs' own').box j).isSome → (look σ.box j).isSome := fun j hj => by
    rw [hlb] at hj
    by_cases h1 : k = j
    · subst h1; exact hkk
    · rw [if_neg h1] at hj; exact hj
  have hle : ∀ p v, rdr F.R0 F.w0.heap.size σ γ w p = some v → rdr F.R0 F.w0.heap.size (σ.setBox k cs' own') γ w1 p = some v := by
    refine rdr_le fun p v hB hm hc => ⟨fun hm' => ?_, ?_⟩
    · rcases hm' with ⟨j, cs'', hj, hp⟩ | ⟨L, e, sz, rows, h1, h2, h3, h4⟩ | hx
      · obtain ⟨cs0, h0⟩ := Option.isSome_iff_exists.1 (hbox j (by rw [hj]; rfl))
        exact hm (.inl ⟨j, cs0, h0, hp⟩)
      · exact hm (.inr (.inl ⟨L, e, sz, rows, (ho _ _ h1).1, (hav L _ h1).symm.trans h2, h3, h4⟩))
      · exact hm (.inr (.inr hx))
    · have hne : p.block ≠ γ.bx k := fun e => hm (.inl ⟨k, cs, hk, e⟩)
      exact (World.cell?_of_block (w := w) (hoth _ hne)).trans hc
  have hrowne : ∀ L x g, lookL own' L = some x → γ.rw L = some g → w1.heap[g]? = w.heap[g]? := fun L x g hL hg =>
    hoth g (h.rowbox L k g (by rw [(ho _ _ hL).1]; rfl) hkk hg)
  refine ⟨h.defers, h.size, h.below.trans ⟨hos, htp, hou, by rw [hsz]; exact Nat.le_refl _, fun j hj => hoth j (by have := (h.box_lt hkk).2; omega)⟩, h.r0, fun t x hx => ?_, fun j cs'' hj => ?_, fun j j' hj hj' => h.boxinj j j' (hbox j hj) (hbox j' hj'), fun L e sz hL => ?_, fun L L' g hL hL' => h.rowinj L L' g (hsome L hL) (hsome L' hL'), fun L j g hL hj => h.rowbox L j g (hsome L hL) (hbox j hj), σ.ext.stable (fun b hb => hoth b (fun e => (h.extf b hb).2.2.1 k hkk e.symm)) h.exth, fun b hb => by
    obtain ⟨h1, h2, h3, h4⟩ := h.extf b hb
    exact ⟨h1, by omega, fun j hj => h3 j (hbox j hj), fun L hL => h4 L (hsome L hL)⟩, h.small, fun j hj => h.dyn j (hbox j hj)⟩
  · obtain ⟨h1, h2⟩ := h.slots t x hx
    refine ⟨h1.mono hle (fun _ _ => rfl), fun j hj => ?_⟩
    rw [hlb]
    by_cases h3 : k = j
    · rw [if_pos h3]; rfl
    · rw [if_neg h3]; exact h2 j hj
  · rw [hlb] at hj
    by_cases h1 : k = j
    · subst h1
      rw [if_pos rfl] at hj
      cases hj
      exact ⟨us', ty, hw1, (h.box_lt hkk).2, hrep.mono hle⟩
    · rw [if_neg h1] at hj
      obtain ⟨us'', ty'', h2, h3, h4⟩ := h.boxes j cs'' hj
      exact ⟨us'', ty'', (hoth _ (fun e => h1 (h.boxinj k j hkk (by rw [hj]; rfl) e.symm))).trans h2, h3, h4.mono hle⟩
  · obtain ⟨h5, h6⟩ := ho _ _ hL
    obtain ⟨rows, v, h1, h2, h3⟩ := h.owns L e sz h5
    refine ⟨rows, v, (hav L _ hL).trans h1, ?_, h3.keep fun g hg => hrowne L _ g hL hg⟩
    cases L with
    | s t => exact h2
    | b j off =>
      show w1.cell? ⟨γ.bx j, off, none⟩ = some v
      by_cases hj : k = j
      · subst hj
        have h7 := (h6 off rfl).2
        have h8 : w.cell? ⟨γ.bx k, off, none⟩ = some v := h2
        rw [cell_of_row w _ off _ ty (0, 0) hw] at h8
        rw [cell_of_row w1 _ off _ ty (0, 0) hw1]
        simp only [List.getElem?_toArray] at h8 ⊢
        rw [h7]; exact h8
      · have hjs : (look σ.box j).isSome := by
          cases hq : look σ.box j with
          | none => simp [St.avAt, hq] at h1
          | some _ => rfl
        exact (World.cell?_of_block (w := w) (a := ⟨γ.bx j, off, none⟩) (hoth _ (fun e => hj (h.boxinj k j hkk hjs e.symm)))).trans h2
def hitB (k o n : Nat) : Loc → Bool
  | .b j off => decide (j = k) && (decide (o ≤ off) && decide (off < o + n))
  | .s _ => false
theorem hit_inv {k o n : Nat} {L : Loc} (h : hitB k o n L = true) : ∃ off, L = .b k off ∧ o ≤ off ∧ off < o + n := by
  cases L with
  | s t => cases h
  | b j off =>
    simp only [hitB, Bool.and_eq_true, decide_eq_true_eq] at h
    obtain ⟨rfl, h1, h2⟩ := h
    exact ⟨off, rfl, h1, h2⟩
theorem hit_no {k o n off : Nat} (h : hitB k o n (.b k off) = false) : off < o ∨ o + n ≤ off := by
  simp only [hitB, decide_true, Bool.true_and, Bool.and_eq_false_imp, decide_eq_true_eq, decide_eq_false_iff_not] at h
  omega
/-- Of the owned rows those that do not lie in cells o to o + n of box k. -/
def keepL (l : List (Loc × (TypeId × Nat))) (k o n : Nat) : List (Loc × (TypeId × Nat)) := l.filter fun x => !hitB k o n x.1
theorem lookL_keep {l : List (Loc × (TypeId × Nat))} {k o n : Nat} : ∀ {L : Loc} {x : TypeId × Nat}, lookL (keepL l k o n) L = some x → lookL l L = some x ∧ ∀ off, L = .b k off → off < o ∨ o + n ≤ off := by
  induction l with
  | nil => intro L x h; simp [keepL, lookL] at h
  | cons y l ih =>
    intro L x h
    obtain ⟨M, y⟩ := y
    unfold keepL at ih h
    cases hM : hitB k o n M with
    | true =>
      rw [List.filter_cons_of_neg (by simp [hM])] at h
      obtain ⟨h1, h2⟩ := ih h
      obtain ⟨off, rfl, h3, h4⟩ := hit_inv hM
      refine ⟨by
        rw [lookL_cons, if_neg]
        · exact h1
        · intro e
          rcases h2 off e.symm with h5 | h5 <;> omega, h2⟩
    | false =>
      rw [List.filter_cons_of_pos (by simp [hM]), lookL_cons] at h
      by_cases he : M = L
      · rw [if_pos he] at h
        exact ⟨by rw [lookL_cons, if_pos he]; exact h, fun off hL => hit_no (by rw [← hL, ← he]; exact hM)⟩
      · rw [if_neg he] at h
        obtain ⟨h1, h2⟩ := ih h
        exact ⟨by rw [lookL_cons, if_neg he]; exact h1, h2⟩

section
variable {P : Program} {F : Fr} {σ : St} {γ : Gh} {a : Act} {w : World}
theorem Rel.store (h : Rel F σ γ a w) {k off : Nat} {cs xs : List PV} {T : TypeId} {u : Value} (hk : look σ.box k = some cs) (hxs : RepL (rdr F.R0 F.w0.heap.size σ γ w) xs u.cells.toList) (hn : (P.info? T).map (·.size) = some xs.length) (hl : off + xs.length ≤ cs.length) :
    ∃ w1, (Instr.storeAt T (.pointer (some ⟨γ.bx k, off, none⟩)) u).run P w = .ok () w1 ∧ Rel F (σ.setBox k (setAt cs off xs) (keepL σ.own k off xs.length)) γ a w1 ∧ (∀ i x, xs[i]? = some x → ∀ y, u.cells.toList[i]? = some y → w1.cell? ⟨γ.bx k, off + i, none⟩ = some y) := by
  obtain ⟨us, ty, h1, h2, h3⟩ := h.boxes k cs hk
  have hlen := h3.length
  have hxl := hxs.length
  have hsz : u.cells.size = xs.length := by rw [← hxl]; simp
  have hblk := setCells_block (γ.bx k) ty u.cells.toList off w us h1 (by omega)
  obtain ⟨r1, r2, r3, r4⟩ := setCells_rest (γ.bx k) u.cells.toList off w
  refine ⟨w.setCells (γ.bx k) off u.cells.toList, ?_, ?_, fun i x hi y hy => ?_⟩
  · obtain ⟨j, hj, hs⟩ := info_some hn
    have hst := run_storeCells_cells (P := P) (γ.bx k) off u.cells.toList 0 w (fun j hj => by
        rw [cell_of_row w _ _ _ ty (0, 0) h1]
        simp; simp at hj; omega) (fun j hj => by
        unfold World.frozen?
        rw [show (⟨γ.bx k, off + 0 + j, none⟩ : Addr).block = γ.bx k from rfl, h1]
        simp) hxs.one
    simp only [Nat.add_zero] at hst
    have hcs : u.cells.size = j.size := by rw [hs, ← hxl]; simp
    simp [Instr.storeAt, Instr.sureAddr, storeVar, sizeOf, typeInfo, hj, hcs, hst]
  · refine h.rebox hk hblk h1 (fun j hj => setCells_other _ _ _ _ j hj) r1 r2 r3 r4 (h3.setAt hxs off) (fun L x hL => ?_)
    obtain ⟨g1, g2⟩ := lookL_keep hL
    refine ⟨g1, fun o ho => ?_⟩
    have := g2 o ho
    exact ⟨setAt_out hl this, setAt_out (by omega) (by rw [hxl]; exact this)⟩
  · rw [cell_of_row _ _ _ _ ty (0, 0) hblk]
    simp only [List.getElem?_toArray]
    have hi' : i < u.cells.toList.length := (List.getElem?_eq_some_iff.1 hy).1
    unfold setAt
    have hmin : min off us.length = off := Nat.min_eq_left (by omega)
    rw [List.append_assoc, List.getElem?_append_right (by simp; omega), List.getElem?_append_left (by simp [hmin]; omega)]
    rw [← hy]
    congr 1
    simp [hmin]
/-- A row is handed on from one place to another that holds the same header. -/
theorem Rel.steal (h : Rel F σ γ a w) {S D : Loc} {e : TypeId × Nat} (hS : lookL σ.own S = some e) (hav : σ.avAt D = σ.avAt S) (hval : valAt a w γ D = valAt a w γ S) :
    Rel F { σ with own := (D, e) :: delL (delL σ.own S) D } (γ.setRow D (γ.rw S)) a w := by
  have hlk : ∀ L, lookL ((D, e) :: delL (delL σ.own S) D) L = if L = D then some e else if L = S then none else lookL σ.own L := fun L => by
    rw [lookL_cons, lookL_del, lookL_del]
    by_cases h1 : L = D
    · rw [if_pos h1.symm, if_pos h1]
    · rw [if_neg (fun e => h1 e.symm), if_neg h1, if_neg h1]
  have hrw : ∀ L, (γ.setRow D (γ.rw S)).rw L = if L = D then γ.rw S else γ.rw L := fun L => rfl
  have hSs : (lookL σ.own S).isSome := by rw [hS]; rfl
  have hmut : ∀ p, St.mut { σ with own := (D, e) :: delL (delL σ.own S) D } (γ.setRow D (γ.rw S)) p → σ.mut γ p := fun p hm => by
    rcases hm with hm | ⟨L, e', sz, rows, h1, h2, h3, h4⟩ | hx
    · exact .inl hm
    rotate_left
    · exact .inr (.inr hx)
    · have h2' : σ.avAt L = some (.sl sz rows) := by cases L <;> exact h2
      rw [hlk] at h1
      rw [hrw] at h3
      by_cases hL : L = D
      · rw [if_pos hL] at h1 h3
        cases h1
        exact .inr (.inl ⟨S, e', sz, rows, hS, by rw [← hav, ← hL]; exact h2', h3, h4⟩)
      · rw [if_neg hL] at h1 h3
        by_cases hL' : L = S
        · rw [if_pos hL'] at h1; cases h1
        · rw [if_neg hL'] at h1
          exact .inr (.inl ⟨L, e', sz, rows, h1, h2', h3, h4⟩)
  have hle : ∀ p v, rdr F.R0 F.w0.heap.size σ γ w p = some v → rdr F.R0 F.w0.heap.size { σ with own := (D, e) :: delL (delL σ.own S) D } (γ.setRow D (γ.rw S)) w p = some v :=
    rdr_le fun p v _ hm hc => ⟨fun hm' => hm (hmut p hm'), hc⟩
  -- where a place's row was owned before
  have hold : ∀ L, (lookL ((D, e) :: delL (delL σ.own S) D) L).isSome → ∃ L0, (lookL σ.own L0).isSome ∧ (γ.setRow D (γ.rw S)).rw L = γ.rw L0 ∧ ((L = D ∧ L0 = S) ∨ (L ≠ D ∧ L ≠ S ∧ L0 = L)) := fun L hL => by
    rw [hlk] at hL
    by_cases h1 : L = D
    · exact ⟨S, hSs, by rw [hrw, if_pos h1], .inl ⟨h1, rfl⟩⟩
    · rw [if_neg h1] at hL
      by_cases h2 : L = S
      · rw [if_pos h2] at hL; cases hL
      · rw [if_neg h2] at hL
        exact ⟨L, hL, by rw [hrw, if_neg h1], .inr ⟨h1, h2, rfl⟩⟩
  refine ⟨h.defers, h.size, h.below, h.r0, fun t x hx => ?_, fun k cs hk => ?_, h.boxinj, fun L e' sz hL => ?_, fun L L' g hL hL' hg hg' => ?_, fun L k g hL hk hg => ?_, h.exth, fun b hb => ?ext, h.small, h.dyn⟩
  case ext =>
    obtain ⟨h1, h2, h3, h4⟩ := h.extf b hb
    refine ⟨h1, h2, h3, fun L hL => ?_⟩
    obtain ⟨M, m1, m2, _⟩ := hold L hL
    rw [m2]; exact h4 M m1
  · obtain ⟨h1, h2⟩ := h.slots t x hx
    exact ⟨h1.mono hle (fun _ _ => rfl), h2⟩
  · obtain ⟨us, ty, h1, h2, h3⟩ := h.boxes k cs hk
    exact ⟨us, ty, h1, h2, h3.mono hle⟩
  · have hL2 := hL
    rw [hlk] at hL2
    by_cases h1 : L = D
    · rw [if_pos h1] at hL2
      cases hL2
      obtain ⟨rows, v, h2, h3, h4⟩ := h.owns S e' sz hS
      subst h1
      exact ⟨rows, v, (show σ.avAt L = _ from hav.trans h2), hval.trans h3, by rw [hrw, if_pos rfl]; exact h4⟩
    · rw [if_neg h1] at hL2
      by_cases h2 : L = S
      · rw [if_pos h2] at hL2; cases hL2
      · rw [if_neg h2] at hL2
        obtain ⟨rows, v, h3, h4, h5⟩ := h.owns L e' sz hL2
        exact ⟨rows, v, by cases L <;> exact h3, by cases L <;> exact h4, by rw [hrw, if_neg h1]; exact h5⟩
  · obtain ⟨M, m1, m2, m3⟩ := hold L hL
    obtain ⟨M', m1', m2', m3'⟩ := hold L' hL'
    rw [m2] at hg
    rw [m2'] at hg'
    have hM := h.rowinj M M' g m1 m1' hg hg'
    rcases m3 with ⟨a1, a2⟩ | ⟨a1, a2, a3⟩ <;> rcases m3' with ⟨b1, b2⟩ | ⟨b1, b2, b3⟩
    · rw [a1, b1]
    · exact absurd (by rw [← b3, ← hM, a2]) b2
    · exact absurd (by rw [← a3, hM, b2]) a2
    · rw [← a3, ← b3, hM]
  · obtain ⟨M, m1, m2, _⟩ := hold L hL
    rw [m2] at hg
    exact h.rowbox M k g m1 hk hg
end

end Av
end Go.Proofs.Ytkdigdnacggknaa
/- Abstract states: append onto an owned row; slices and structs written out. Generic. -/
namespace Go.Proofs.Ytkdigdnacggknaa
open Go.RowKit
namespace Av

theorem rep_mk {R : Reader} {sz : Nat} {rows : List (List PV)} {zs : List Value} {A : Option Addr} {cap : Nat} (hsz : ∀ (k : Nat) (row : List PV), rows[k]? = some row → row.length = sz)
    (hz : ∀ (k : Nat) (row : List PV) (j : Nat) (p : PV), rows[k]? = some row → row[j]? = some p → ∃ x, zs[k * sz + j]? = some x ∧ RepP R p x)
    (hA : rows = [] ∨ ∃ b off, A = some ⟨b, off, none⟩ ∧ ∀ (i : Nat) (x : Value), zs[i]? = some x → i < rows.length * sz → R ⟨b, off + i, none⟩ = some x) (hc : rows.length ≤ cap) : RepP R (.sl sz rows) (.slice A rows.length cap) := by
  refine .sl sz rows A cap (fun k j => zs.getD (k * sz + j) undef) hsz ?_ (fun k row j p hk hj => ?_) hc
  · rcases hA with h | ⟨b, off, e, h⟩
    · exact .inl h
    · refine .inr ⟨b, off, e, fun k row j p hk hj => ?_⟩
      obtain ⟨x, hx, _⟩ := hz k row j p hk hj
      have h1 : k < rows.length := (List.getElem?_eq_some_iff.1 hk).1
      have h2 : j < row.length := (List.getElem?_eq_some_iff.1 hj).1
      rw [hsz k row hk] at h2
      have h3 : k * sz + j < rows.length * sz := by
        have : (k + 1) * sz ≤ rows.length * sz := Nat.mul_le_mul_right _ h1
        rw [Nat.add_mul] at this
        omega
      rw [Nat.add_assoc, List.getD_eq_getElem?_getD, hx]
      exact h _ x hx h3
  · obtain ⟨x, hx, h1⟩ := hz k row j p hk hj
    rw [List.getD_eq_getElem?_getD, hx]
    exact h1
theorem rows_flat {R : Reader} {sz : Nat} {rows : List (List PV)} {u : Value} (hs0 : 0 < sz) (h : RepP R (.sl sz rows) u) :
    ∃ (A : Option Addr) (cap : Nat) (xs : List Value), u = .slice A rows.length cap ∧ rows.length ≤ cap ∧ xs.length = rows.length * sz ∧ (∀ (k : Nat) (row : List PV), rows[k]? = some row → row.length = sz) ∧
      (∀ (k : Nat) (row : List PV) (j : Nat) (p : PV), rows[k]? = some row → row[j]? = some p → ∃ x, xs[k * sz + j]? = some x ∧ RepP R p x) ∧ (∀ x ∈ xs, x.oneCell' = true) ∧
      (rows = [] ∨ ∃ b off, A = some ⟨b, off, none⟩ ∧ ∀ (i : Nat) (x : Value), xs[i]? = some x → R ⟨b, off + i, none⟩ = some x) := by
  cases h with
  | sl _ _ A cap f hsz hA hf hc =>
    have hget : ∀ i, i < rows.length * sz → ((List.range (rows.length * sz)).map fun i => f (i / sz) (i % sz))[i]? = some (f (i / sz) (i % sz)) := fun i hi => by simp [hi]
    have hdec : ∀ k j, j < sz → (k * sz + j) / sz = k ∧ (k * sz + j) % sz = j := fun k j hj => by
      rw [Nat.mul_comm, Nat.mul_add_div hs0, Nat.mul_add_mod, Nat.div_eq_of_lt hj, Nat.mod_eq_of_lt hj]
      exact ⟨by omega, rfl⟩
    have hlt : ∀ k j, k < rows.length → j < sz → k * sz + j < rows.length * sz := fun k j h1 h2 => by
      have : (k + 1) * sz ≤ rows.length * sz := Nat.mul_le_mul_right _ h1
      rw [Nat.add_mul] at this
      omega
    have hcell : ∀ i, i < rows.length * sz → ∃ (row : List PV) (p : PV), rows[i / sz]? = some row ∧ row[i % sz]? = some p := fun i hi => by
      have h1 : i / sz < rows.length := by rw [Nat.div_lt_iff_lt_mul hs0]; exact hi
      have h2 : i % sz < rows[i / sz].length := by rw [hsz _ _ (List.getElem?_eq_getElem h1)]; exact Nat.mod_lt _ hs0
      exact ⟨_, _, List.getElem?_eq_getElem h1, List.getElem?_eq_getElem h2⟩
    refine ⟨A, cap, (List.range (rows.length * sz)).map fun i => f (i / sz) (i % sz), rfl, hc, by simp, hsz, fun k row j p hk hj => ?_, fun x hx => ?_, ?_⟩
    · have h1 : k < rows.length := (List.getElem?_eq_some_iff.1 hk).1
      have h2 : j < sz := by rw [← hsz k row hk]; exact (List.getElem?_eq_some_iff.1 hj).1
      refine ⟨f k j, ?_, hf k row j p hk hj⟩
      rw [hget _ (hlt k j h1 h2), (hdec k j h2).1, (hdec k j h2).2]
    · obtain ⟨i, hi, rfl⟩ := List.mem_map.1 hx
      obtain ⟨row, p, h1, h2⟩ := hcell i (by simpa using hi)
      exact (hf _ row _ p h1 h2).one
    · rcases hA with h | ⟨b, off, e, h⟩
      · exact .inl h
      · refine .inr ⟨b, off, e, fun i x hx => ?_⟩
        have hi : i < rows.length * sz := by
          rcases Nat.lt_or_ge i (rows.length * sz) with h' | h'
          · exact h'
          · rw [List.getElem?_eq_none (by simpa using h')] at hx; cases hx
        rw [hget i hi] at hx
        cases hx
        obtain ⟨row, p, h1, h2⟩ := hcell i hi
        have := h _ row _ p h1 h2
        rw [show off + i / sz * sz + i % sz = off + i by rw [Nat.add_assoc, Nat.div_add_mod' i sz]] at this
        exact this

/-- append: onto the row that slot s owns (or onto nothing). -/
theorem Rel.append {P : Program} {F : Fr} {σ : St} {γ : Gh} {a : Act} {w : World} (h : Rel F σ γ a w) {d : Nat} (hd : d < F.n) {T ty e : TypeId} {i : TypeInfo} {z : Value} (ht : P.underlying T = some (.slice e)) (hi : P.info? e = some i) (hz : i.zero = some z)
    (hzs : z.cells.size = i.size) (hs0 : 0 < i.size) (hby : i.bytes ≤ 1000000) {rows rows2 : List (List PV)} {u u2 : Value} {s : Option Nat}
    (hs : (s = none ∧ rows = [] ∧ u = .slice none 0 0) ∨ (∃ t, s = some t ∧ lookL σ.own (.s t) = some (e, i.size) ∧ look σ.slot t = some (.sl i.size rows) ∧ u = a.tmps.getD t undef))
    (hu2 : RepP (rdr F.R0 F.w0.heap.size σ γ w) (.sl i.size rows2) u2) (hnm : rows.length + rows2.length ≤ 100000000) :
    ∃ v w1 γ', (Builtin.append_ #[T, T] ty #[u, u2]).run P w = .ok v w1 ∧ Rel F ({ σ with own := delS σ.own s }.putOwn d i.size (rows ++ rows2) e) γ' (a.put (some d) v) w1 := by
  obtain ⟨A2, cap2, news, rfl, hc2, hl2, hsz2, hz2, h12, hA2⟩ := rows_flat hs0 hu2
  -- the row that is grown
  have hold : ∃ (q : Option Nat) (xs : List Value), OwnV w F.w0.heap.size e i.size rows.length u q ∧ xs.length = rows.length * i.size ∧ (∀ g, q = some g → ∀ (j : Nat) (x : Value), xs[j]? = some x → w.cell? ⟨g, j, none⟩ = some x) ∧ (∀ (k : Nat) (row : List PV), rows[k]? = some row → row.length = i.size) ∧
      (∀ (k : Nat) (row : List PV) (j : Nat) (p : PV), rows[k]? = some row → row[j]? = some p → ∃ x, xs[k * i.size + j]? = some x ∧ RepP (rdr F.R0 F.w0.heap.size σ γ w) p x) ∧ (∀ g, q = some g → ∃ t, s = some t ∧ γ.rw (.s t) = some g) ∧ (∀ t, s = some t → γ.rw (.s t) = q) := by
    rcases hs with ⟨rfl, rfl, rfl⟩ | ⟨t, rfl, h1, h2, rfl⟩
    · exact ⟨none, [], ⟨rfl, rfl⟩, by simp, fun g hg => (by cases hg), fun k row hk => (by simp at hk), fun k row j p hk => (by simp at hk), fun g hg => (by cases hg), fun t ht => (by cases ht)⟩
    · obtain ⟨rows', v, h3, h4, h5⟩ := h.owns _ _ _ h1
      simp only [St.avAt, h2, Option.some.injEq, AV.sl.injEq, true_and] at h3
      subst h3
      simp only [valAt, Option.some.injEq] at h4
      subst h4
      obtain ⟨A, cap, xs, h6, h7, h8, h9, h10, h11, h12⟩ := rows_flat hs0 (h.slots t _ h2).1
      refine ⟨γ.rw (.s t), xs, h5, h8, fun g hg j x hx => ?_, h9, h10, fun g hg => ⟨t, rfl, hg⟩, fun t' ht' => (by cases ht'; rfl)⟩
      rw [hg] at h5
      obtain ⟨cap', cur, h13, _⟩ := h5
      rcases h12 with h14 | ⟨b, off, h14, h15⟩
      · subst h14
        have hx0 : xs = [] := List.eq_nil_of_length_eq_zero (by rw [h8]; simp)
        rw [hx0] at hx
        simp at hx
      · rw [h6] at h13
        simp only [Value.slice.injEq] at h13
        rw [h14] at h13
        simp only [Option.some.injEq, Addr.mk.injEq] at h13
        obtain ⟨⟨rfl, rfl, _⟩, _⟩ := h13
        have := h.cell (h15 j x hx)
        rw [Nat.zero_add] at this
        exact this
  obtain ⟨q, xs, k1, k2, k3, k4, k5, k6, k7⟩ := hold
  obtain ⟨v, w1, q', r1, r2, r3, r4, r5, r6, r7, r8, r9, r10⟩ := run_append_av (P := P) w F.w0.heap.size T ty e i z ht hi hz hzs hs0 hby u rows.length xs q k1 k2 k3 A2 rows2.length cap2 news hl2 (by
    rcases hA2 with h1 | ⟨b, off, h1, h2⟩
    · exact .inl (by rw [h1]; rfl)
    · exact .inr ⟨b, off, h1, fun j x hx => h.cell (h2 j x hx)⟩) h12 hnm h.base
  have hlen : (rows ++ rows2).length = rows.length + rows2.length := List.length_append
  refine ⟨v, w1, γ.setRow (.s d) q', r1, h.row hd r7 r8 r9 r10 (fun k hk hn => r4 k hk (fun e => by obtain ⟨t, h1, h2⟩ := k6 k e; exact hn t h1 h2)) (fun t ht => ?_) (fun g hg => ?_) (by rw [hlen]; exact r2) ?_⟩
  · rcases hs with ⟨rfl, _⟩ | ⟨t', rfl, h1, h2, _⟩
    · cases ht
    · cases ht
      refine ⟨_, rows, h1, h2, Nat.mul_le_mul_right _ (by rw [hlen]; omega), fun g hg j hj => r5 g (by rw [← k7 t rfl]; exact hg) j hj⟩
  · rcases r6 with r6 | r6
    · rw [r6] at hg
      exact .inr (k6 g hg)
    · rw [r6] at hg; cases hg; exact .inl (Nat.le_refl _)
  · have hgetz : ∀ (k : Nat) (row : List PV) (j : Nat) (p : PV), (rows ++ rows2)[k]? = some row → row[j]? = some p → ∃ x, (xs ++ news)[k * i.size + j]? = some x ∧ RepP (rdr F.R0 F.w0.heap.size σ γ w) p x := fun k row j p hk hj => by
      rcases Nat.lt_or_ge k rows.length with hlt | hge
      · rw [List.getElem?_append_left hlt] at hk
        obtain ⟨x, hx, h1⟩ := k5 k row j p hk hj
        exact ⟨x, by rw [List.getElem?_append_left (List.getElem?_eq_some_iff.1 hx).1]; exact hx, h1⟩
      · rw [List.getElem?_append_right hge] at hk
        obtain ⟨x, hx, h1⟩ := hz2 _ row j p hk hj
        refine ⟨x, ?_, h1⟩
        have hge2 : xs.length ≤ k * i.size + j := by
          rw [k2]
          have := Nat.mul_le_mul_right i.size hge
          omega
        rw [List.getElem?_append_right hge2, k2]
        rw [show k * i.size + j - rows.length * i.size = (k - rows.length) * i.size + j by
          rw [Nat.sub_mul]
          have := Nat.mul_le_mul_right i.size hge
          omega]
        exact hx
    have hshape : ∃ A cap, v = .slice A (rows ++ rows2).length cap ∧ (rows ++ rows2).length ≤ cap ∧ ((rows ++ rows2) = [] ∨ ∃ g, q' = some g ∧ A = some ⟨g, 0, none⟩) := by
      cases q' with
      | none =>
        obtain ⟨h1, h2⟩ := r2
        have : rows ++ rows2 = [] := List.eq_nil_of_length_eq_zero (by rw [hlen]; exact h2)
        exact ⟨none, 0, by rw [h1, this]; rfl, by rw [this]; exact Nat.le_refl _, .inl this⟩
      | some g =>
        obtain ⟨cap, cur, h1, _, _, h2, _⟩ := r2
        exact ⟨_, cap, by rw [hlen]; exact h1, by rw [hlen]; exact h2, .inr ⟨g, rfl, rfl⟩⟩
    obtain ⟨A, cap, hv, hcap, hA⟩ := hshape
    rw [hv]
    refine rep_mk (zs := xs ++ news) (fun k row hk => ?_) (fun k row j p hk hj => ?_) ?_ hcap
    · rcases Nat.lt_or_ge k rows.length with hlt | hge
      · rw [List.getElem?_append_left hlt] at hk; exact k4 k row hk
      · rw [List.getElem?_append_right hge] at hk; exact hsz2 _ row hk
    · obtain ⟨x, hx, h1⟩ := hgetz k row j p hk hj
      refine ⟨x, hx, h1.mono fun p v hp => ?_⟩
      rw [if_pos (by rw [hp]; rfl)]
      exact hp
    · rcases hA with h1 | ⟨g, hg, hA⟩
      · exact .inl h1
      · refine .inr ⟨g, 0, hA, fun o x hx ho => ?_⟩
        rw [Nat.zero_add]
        have hx1 := r3 g hg o x hx
        by_cases hr : (rdr F.R0 F.w0.heap.size σ γ w ⟨g, o, none⟩).isSome
        · rw [if_pos hr]
          obtain ⟨y, hy⟩ := Option.isSome_iff_exists.1 hr
          have hc := h.cell hy
          have hlt := Rel.cell_lt hc
          rcases r6 with r6 | r6
          · have hq : q = some g := by rw [← r6]; exact hg
            obtain ⟨t, hts, htg⟩ := k6 g hq
            rcases hs with ⟨hn, _⟩ | ⟨t', ht', h1, h2, _⟩
            · rw [hn] at hts; cases hts
            · rw [ht'] at hts
              cases hts
              have hoff : o < rows.length * i.size := by
                rcases Nat.lt_or_ge o (rows.length * i.size) with h3 | h3
                · exact h3
                · exfalso
                  unfold rdr at hy
                  have := (h.row_lt (L := .s t) (by rw [h1]; rfl) htg).2
                  rw [if_neg (by dsimp only; omega), if_pos (.inr (.inl ⟨.s t, e, i.size, rows, h1, h2, htg, h3⟩))] at hy
                  cases hy
              have := r5 g hq o hoff
              rw [hx1, hc] at this
              rw [hy, ← this]
          · rw [r6] at hg
            cases hg
            exact absurd hlt (Nat.lt_irrefl _)
        · rw [if_neg hr, if_pos ⟨hg, ho⟩]
          exact hx1

end Av
end Go.Proofs.Ytkdigdnacggknaa
/- Structs of ints: == on them. Generic. -/
namespace Go.Proofs.Ytkdigdnacggknaa
open Go.RowKit
namespace Av

/-- How many ints a value of type t is; none if it holds anything else. -/
def intT (P : Program) : Nat → TypeId → Option Nat
  | 0, _ => none
  | d + 1, t => match P.underlying t with
    | some (.int .i64) => if (P.info? t).map (·.size) = some 1 then some 1 else none
    | some (.struct fs) => if P.stoodInHeld t = false then (fs.toList.foldl (fun (acc : Option Nat) f => match acc, intT P d f.type with
        | some n, some m => if f.offset = n ∧ f.name ≠ "_" ∧ (P.info? f.type).map (·.size) = some m then some (n + m) else none
        | _, _ => none) (some 0)) else none
    | _ => none
def intsOf : List PV → Option (List Int)
  | [] => some []
  | .v (.int .i64 a) :: l => match intsOf l with
    | some r => some (a :: r)
    | none => none
  | _ :: _ => none
def mkI (P : Program) (t : TypeId) (l : List Int) : Value := match P.underlying t with
  | some (.struct _) => .agg (l.map (Value.int .i64)).toArray
  | _ => .int .i64 (l.headD 0)
section
variable {P : Program}
theorem fold_none {α : Type} {f : Option Nat → α → Option Nat} (hf : ∀ x, f none x = none) : ∀ l : List α, l.foldl f none = none
  | [] => rfl
  | x :: l => by rw [List.foldl_cons, hf]; exact fold_none hf l
theorem beq_split {l1 l2 : List Int} (m : Nat) (h : l1.length = l2.length) : (l1 == l2) = (l1.take m == l2.take m && l1.drop m == l2.drop m) := by
  rw [Bool.eq_iff_iff, Bool.and_eq_true, beq_iff_eq, beq_iff_eq, beq_iff_eq]
  constructor
  · rintro rfl; exact ⟨rfl, rfl⟩
  · rintro ⟨h1, h2⟩
    rw [← List.take_append_drop m l1, ← List.take_append_drop m l2, h1, h2]
theorem eq_ints (w : World) : ∀ (d : Nat) (t : TypeId) (n : Nat), intT P d t = some n → ∀ (D : Nat), d ≤ D → ∀ (l1 l2 : List Int), l1.length = n → l2.length = n → (Op.equalIn D t (mkI P t l1) (mkI P t l2)).run P w = .ok (l1 == l2) w
  | 0, t, n, h => by cases h
  | d + 1, t, n, h => by
    intro D hD l1 l2 h1 h2
    obtain ⟨D, rfl⟩ : ∃ D', D = D' + 1 := ⟨D - 1, by omega⟩
    unfold intT at h
    cases hu : P.underlying t with
    | none => rw [hu] at h; cases h
    | some desc =>
      rw [hu] at h
      cases desc with
      | int k =>
        cases k <;> first | cases h | skip
        dsimp only at h
        split at h
        · cases h
          simp only [mkI, hu]
          rw [run_equalIn_int w D t .i64 .i64 _ _ hu]
          obtain ⟨a, rfl⟩ : ∃ a, l1 = [a] := by
            cases l1 with
            | nil => cases h1
            | cons a l => cases l with
              | nil => exact ⟨a, rfl⟩
              | cons => cases h1
          obtain ⟨b, rfl⟩ : ∃ b, l2 = [b] := by
            cases l2 with
            | nil => cases h2
            | cons a l => cases l with
              | nil => exact ⟨a, rfl⟩
              | cons => cases h2
          simp
        · cases h
      | struct fs =>
        dsimp only at h
        split at h
        · rename_i hst
          have hfo : P.fieldsOf t = fs := by simp [Program.fieldsOf, hu]
          simp only [mkI, hu]
          rw [run_equalIn_agg w D t _ _ (by rw [hu, hfo]) hst, hfo]
          -- the fields from n0 on
          have key : ∀ (l : List Field) (n0 : Nat), l.foldl (fun (acc : Option Nat) f => match acc, intT P d f.type with
              | some n, some m => if f.offset = n ∧ f.name ≠ "_" ∧ (P.info? f.type).map (·.size) = some m then some (n + m) else none
              | _, _ => none) (some n0) = some n → (Op.eqFields D (l1.map (Value.int .i64)).toArray (l2.map (Value.int .i64)).toArray l).run P w = .ok (l1.drop n0 == l2.drop n0) w := by
            intro l
            induction l with
            | nil =>
              intro n0 hn
              cases hn
              rw [List.drop_of_length_le (by omega), List.drop_of_length_le (by omega)]
              rfl
            | cons f l ih =>
              intro n0 hn
              rw [List.foldl_cons] at hn
              cases hm : intT P d f.type with
              | none => rw [hm] at hn; dsimp only at hn; rw [fold_none (fun x => by rfl)] at hn; cases hn
              | some m =>
                rw [hm] at hn
                dsimp only at hn
                split at hn
                · rename_i hc
                  obtain ⟨ho, hname, hsz⟩ := hc
                  have hrest := ih (n0 + m) hn
                  -- m is at most what is left
                  have hle : n0 + m ≤ n := by
                    clear hrest ih
                    generalize n0 + m = q at hn
                    clear hm ho hname hsz
                    revert q
                    induction l with
                    | nil => intro q hn; cases hn; exact Nat.le_refl _
                    | cons f' l ih2 =>
                      intro q hn
                      rw [List.foldl_cons] at hn
                      cases hm' : intT P d f'.type with
                      | none => rw [hm'] at hn; dsimp only at hn; rw [fold_none (fun x => by rfl)] at hn; cases hn
                      | some m' =>
                        rw [hm'] at hn
                        dsimp only at hn
                        split at hn
                        · have := ih2 (q + m') hn; omega
                        · rw [fold_none (fun x => by rfl)] at hn; cases hn
                  have hpart : ∀ (l0 : List Int), l0.length = n → (part f.type (l0.map (Value.int .i64)).toArray f.offset).run P w = .ok (mkI P f.type ((l0.drop n0).take m)) w := fun l0 hl0 => by
                    have hd : ∃ dd, P.underlying f.type = some dd ∧ ((∃ fs, dd = .struct fs) ∨ (dd = .int .i64 ∧ m = 1)) := by
                      cases d with
                      | zero => cases hm
                      | succ d =>
                        unfold intT at hm
                        cases hu' : P.underlying f.type with
                        | none => rw [hu'] at hm; cases hm
                        | some dd =>
                          rw [hu'] at hm
                          cases dd with
                          | int k =>
                            cases k <;> first | cases hm | skip
                            dsimp only at hm
                            split at hm
                            · cases hm; exact ⟨_, rfl, .inr ⟨rfl, rfl⟩⟩
                            · cases hm
                          | struct fs' => exact ⟨_, rfl, .inl ⟨fs', rfl⟩⟩
                          | _ => cases hm
                    obtain ⟨dd, hdd, hk⟩ := hd
                    have hp := run_part (P := P) w f.type dd m (l0.map (Value.int .i64)) f.offset hdd hsz
                    rcases hk with ⟨fs', rfl⟩ | ⟨rfl, rfl⟩
                    · rw [hp.1 rfl, ho]
                      simp only [mkI, hdd]
                      rw [List.map_take, List.map_drop]
                    · have hlt : n0 < l0.length := by omega
                      rw [hp.2 rfl (.int .i64 l0[n0]) (by rw [ho]; simp [hlt])]
                      simp only [mkI, hdd]
                      congr 2
                      rw [List.drop_eq_getElem_cons hlt]
                      rfl
                  unfold Op.eqFields
                  rw [if_pos hname]
                  simp only [Sem.run_bind, hpart l1 h1, hpart l2 h2, Result.andThen_ok]
                  rw [eq_ints w d f.type m hm D (by omega) _ _ (by simp; omega) (by simp; omega)]
                  simp only [Result.andThen_ok]
                  rw [beq_split m (by simp; omega : (l1.drop n0).length = (l2.drop n0).length)]
                  cases hq : ((l1.drop n0).take m == (l2.drop n0).take m) with
                  | false => simp
                  | true =>
                    simp only [Bool.not_true, Bool.false_eq_true, if_false, Bool.true_and]
                    rw [hrest, List.drop_drop, List.drop_drop]
                · rw [fold_none (fun x => by rfl)] at hn; cases hn
          have := key fs.toList 0 h
          simpa using this
        · cases h
      | _ => cases h
theorem intsOf_rep {R : Reader} : ∀ {xs : List PV} {l : List Int} {us : List Value}, intsOf xs = some l → RepL R xs us → us = l.map (Value.int .i64)
  | [], l, us, h, hr => by cases h; cases hr; rfl
  | x :: xs, l, us, h, hr => by
    cases hr with
    | cons h1 h2 =>
      unfold intsOf at h
      split at h
      · rename_i he; cases he
      · rename_i a l' he
        obtain ⟨rfl, rfl⟩ := List.cons.inj he
        split at h
        · rename_i r hr
          cases h
          cases h1
          rw [intsOf_rep hr h2]
          rfl
        · cases h
      · cases h
end
end Av
end Go.Proofs.Ytkdigdnacggknaa
