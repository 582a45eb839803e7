/- As the text Mix: with operations ('rough') that may change what lies below B; each of them waits for all that were taken first. Generic. -/
import Derived.Test.YtepamedbbbfjkaaMix
namespace Go.Proofs.Ytepamedbbbfjkaa
open Go.RowKit

section
variable {P : Program} {ops : Array Oper} {Q : Exit → Act → World → Prop}

/-- What an operation leaves: all below B; a rough one nothing. -/
def lowR (R : List Nat) (B i : Nat) : Nat := if R.contains i = true then 0 else B
/-- Whatever order is picked from here on. -/
def anyR (P : Program) (ops : Array Oper) (B : Nat) (R : List Nat) (Q : Exit → Act → World → Prop) : Nat → Array Bool → Act → World → Prop
  | 0, listed, a, w => Region.ready .any ops listed = [] ∧ Q .normal a w
  | f + 1, listed, a, w => (Region.ready .any ops listed = [] → Q .normal a w) ∧ ∀ i ∈ Region.ready .any ops listed, wpOp P ops Q i (fun a' w' => Below (lowR R B i) w w' ∧ anyR P ops B R Q f (listed.setIfInBounds i true) a' w') a w

/-- Each rough operation waits for operation i. -/
def waitsR (ops : Array Oper) (R : List Nat) (i : Nat) : Bool :=
  R.all fun j => match ops[j]? with
    | some o => o.after.any fun e => Region.binds .any e && e.on == i
    | none => true
theorem waitsR_spec {i j : Nat} {oj : Oper} {R : List Nat} (h : waitsR ops R i = true) (hj : ops[j]? = some oj) (hno : ∀ e ∈ oj.after, Region.binds .any e = true → e.on ≠ i) : R.contains j = false := by
  rw [Bool.eq_false_iff]
  intro hc
  have hm : j ∈ R := by simpa using hc
  have h1 := List.all_eq_true.1 h j hm
  rw [hj] at h1
  simp only [Array.any_eq_true] at h1
  obtain ⟨k, hk, he⟩ := h1
  simp only [Bool.and_eq_true, beq_iff_eq] at he
  exact hno _ (Array.getElem_mem hk) he.1 he.2

theorem anyR_any {B : Nat} {R : List Nat} : ∀ (f : Nat) (listed : Array Bool) (a : Act) (w : World), anyR P ops B R Q f listed a w → wpAny P .any ops Q f listed a w
  | 0, _, _, _, h => h
  | f + 1, _, _, _, h => ⟨h.1, fun i hi => wpOp_mono (fun a' w' h' => anyR_any f _ a' w' h'.2) (h.2 i hi)⟩

theorem anyR_first {B B0 i : Nat} {R : List Nat} {oi : Oper} {v : Value} (hi : ops[i]? = some oi) (hR : ∀ j oj, ops[j]? = some oj → (∀ e ∈ oj.after, Region.binds .any e = true → e.on ≠ i) → B0 ≤ lowR R B j) (hsel : ∀ (j : Nat) (o : Oper) cs b, ops[j]? = some o → o.op ≠ .select cs b)
    (hQ : ∀ c a w, Q (.panic c) (a.put oi.dst v) w → Q (.panic c) a w) :
    ∀ (f : Nat) (listed : Array Bool) (a : Act) (w : World),
      (∀ j oj, ops[j]? = some oj → j ≠ i → listed.getD j true = false → (∀ e ∈ oj.after, Region.binds .any e = true → e.on ≠ i) → oi.apart ops oj = true) →
      i ∈ Region.ready .any ops listed → YieldsB P ops B0 oi v a w →
      anyR P ops B R Q f (listed.setIfInBounds i true) (a.put oi.dst v) w → anyR P ops B R Q (f + 1) listed a w := by
  intro f
  induction f with
  | zero =>
    intro listed a w _ hr hy H
    refine ⟨fun h => (by rw [h] at hr; cases hr), fun j hj => ?_⟩
    by_cases hji : j = i
    · subst hji; exact hy.wpOp hi ⟨Below.refl _ _, H⟩
    · have := ready_mono hj hji
      rw [H.1] at this
      cases this
  | succ f ih =>
    intro listed a w hfree hr hy H
    refine ⟨fun h => (by rw [h] at hr; cases hr), fun j hj => ?_⟩
    by_cases hji : j = i
    · subst hji; exact hy.wpOp hi ⟨Below.refl _ _, H⟩
    · have h1 := H.2 j (ready_mono hj hji)
      obtain ⟨hjun, oj, hoj, hall⟩ := mem_ready.1 hj
      have hnot : ∀ e ∈ oj.after, Region.binds .any e = true → e.on ≠ i := fun e he hb heq => by
        have h1 := hall e he hb
        rw [heq, getD_both (mem_ready.1 hr).1] at h1
        cases h1
      have h1' := wpOp_mono (K' := fun a' w' => Below B0 w w' ∧ (Below (lowR R B j) w w' ∧ anyR P ops B R Q f (((listed.setIfInBounds i true)).setIfInBounds j true) a' w')) (fun a' w' h => ⟨h.1.mono (hR j oj hoj hnot), h⟩) h1
      have h2 := anyB_put hoj (hfree j oj hoj hji hjun hnot) (fun cs b => hsel i oi cs b hi) (fun cs b => hsel j oj cs b hoj) hQ hy h1'
      have hfree' : ∀ k ok, ops[k]? = some ok → k ≠ i → (listed.setIfInBounds j true).getD k true = false →
          (∀ e ∈ ok.after, Region.binds .any e = true → e.on ≠ i) → oi.apart ops ok = true := fun k ok hk hki hun hno => by
        refine hfree k ok hk hki ?_ hno
        by_cases hjk : j = k
        · subst hjk; exact hjun
        · rw [getD_set_ne true hjk] at hun; exact hun
      refine wpOp_mono (fun a' w' h3 => ⟨h3.2.2.1, ih (listed.setIfInBounds j true) a' w' hfree' (ready_mono hr (Ne.symm hji)) h3.2.1 ?_⟩) h2
      rw [Array.setIfInBounds_comm _ _ hji]
      exact h3.2.2.2

theorem lowR_waits {B i : Nat} {R : List Nat} (h : waitsR ops R i = true) : ∀ j oj, ops[j]? = some oj → (∀ e ∈ oj.after, Region.binds .any e = true → e.on ≠ i) → B ≤ lowR R B j := fun j oj hj hno => by
  unfold lowR
  rw [waitsR_spec h hj hno]
  simp

/-- A plain operation that is quiet below B is taken first. -/
theorem anyR_take {B f : Nat} {R : List Nat} {l l' : Array Bool} {a : Act} {w : World} (i : Nat) (o : Oper) (hi : ops[i]? = some o) (hp : plainOp o.op = true) (hs : Region.noSelect ops = true) (hR : waitsR ops R i = true) (hf : Region.free .any ops l i = true)
    (hr : (Region.ready .any ops l).contains i = true) (hl : l.setIfInBounds i true = l') (hw : Region.wanted o (yielded ops a.tmps) = true)
    (h : ∀ K : Act → Prop, (∀ a', anyR P ops B R (NoPanic Q) f l' a' w → K a') → o.quiet P a (fun w' => ∃ x : ExtW B w, w' = x.val) K) : anyR P ops B R (NoPanic Q) (f + 1) l a w := by
  obtain ⟨v, h1, h2⟩ := h _ (fun _ h => h)
  refine anyR_first (B0 := B) hi (lowR_waits hR) (Region.noSelect_spec hs) (v := v) (fun _ _ _ h => (h : False).elim) f l a w (Region.free_spec hi hf) (by simpa using hr) (.inl ⟨hw, fun w' hb => ?_⟩) (by rw [hl]; exact h2)
  have h3 := h1 w' ⟨⟨w', hb⟩, rfl⟩
  unfold Oper.quietAt at h3
  rcases run_plain (P := P) hp a.eval w' with ⟨u, w2, e⟩ | ⟨x, w2, e⟩
  · rw [e] at h3 ⊢
    obtain ⟨rfl, rfl⟩ := h3
    rfl
  · rw [e] at h3
    exact h3.elim

/-- A plain operation that looks at no memory is taken first. -/
theorem anyR_take0 {B f : Nat} {R : List Nat} {l l' : Array Bool} {a : Act} {w : World} (i : Nat) (o : Oper) (hi : ops[i]? = some o) (hp : plainOp o.op = true) (hs : Region.noSelect ops = true) (hf : Region.free .any ops l i = true)
    (hr : (Region.ready .any ops l).contains i = true) (hl : l.setIfInBounds i true = l') (hw : Region.wanted o (yielded ops a.tmps) = true)
    (h : ∀ K : Act → Prop, (∀ a', anyR P ops B R (NoPanic Q) f l' a' w → K a') → o.quiet P a (fun w' => ∃ x : ExtW 0 w, w' = x.val) K) : anyR P ops B R (NoPanic Q) (f + 1) l a w := by
  obtain ⟨v, h1, h2⟩ := h _ (fun _ h => h)
  refine anyR_first (B0 := 0) hi (fun _ _ _ _ => Nat.zero_le _) (Region.noSelect_spec hs) (v := v) (fun _ _ _ h => (h : False).elim) f l a w (Region.free_spec hi hf) (by simpa using hr) (.inl ⟨hw, fun w' hb => ?_⟩) (by rw [hl]; exact h2)
  have h3 := h1 w' ⟨⟨w', hb⟩, rfl⟩
  unfold Oper.quietAt at h3
  rcases run_plain (P := P) hp a.eval w' with ⟨u, w2, e⟩ | ⟨x, w2, e⟩
  · rw [e] at h3 ⊢
    obtain ⟨rfl, rfl⟩ := h3
    rfl
  · rw [e] at h3
    exact h3.elim

/-- One whose guard is false is passed over first. -/
theorem anyR_pass {B f : Nat} {R : List Nat} {l l' : Array Bool} {a : Act} {w : World} (i : Nat) (o : Oper) (hi : ops[i]? = some o) (hs : Region.noSelect ops = true) (hf : Region.free .any ops l i = true)
    (hr : (Region.ready .any ops l).contains i = true) (hl : l.setIfInBounds i true = l') (hw : Region.wanted o (yielded ops a.tmps) = false)
    (h : anyR P ops B R (NoPanic Q) f l' (a.put o.dst undef) w) : anyR P ops B R (NoPanic Q) (f + 1) l a w :=
  anyR_first (B0 := 0) hi (fun _ _ _ _ => Nat.zero_le _) (Region.noSelect_spec hs) (v := undef) (fun _ _ _ h => (h : False).elim) f l a w (Region.free_spec hi hf) (by simpa using hr) (.inr ⟨hw, rfl⟩) (by rw [hl]; exact h)

/-- What stands behind one operation: the world is as it was below B, and the rest. -/
def OneR (P : Program) (ops : Array Oper) (B : Nat) (R : List Nat) (f i : Nat) (Q : Exit → Act → World → Prop) (l : Array Bool) (w : World) : Exit → Act → World → Prop
  | .normal, a', w' => Below (lowR R B i) w w' ∧ anyR P ops B R Q f l a' w'
  | e, a', w' => Q e a' w'

theorem wpOp_oneR {B f i : Nat} {R : List Nat} {o : Oper} {l l' : Array Bool} {a : Act} {w : World} (hi : ops[i]? = some o) (hl : l.setIfInBounds i true = l')
    (h : wpList P ops (OneR P ops B R f i (NoPanic Q) l' w) [o] a w) : wpOp P ops (NoPanic Q) i (fun a' w' => Below (lowR R B i) w w' ∧ anyR P ops B R (NoPanic Q) f (l.setIfInBounds i true) a' w') a w := by
  rw [hl]
  unfold wpOp
  simp only [hi]
  simp only [wpList] at h
  split
  · rename_i hw
    simp only [hw, if_true] at h
    rcases h with h | ⟨h1, a0, w0, h2⟩
    · refine .inl ?_
      unfold Oper.wp at *
      generalize (execOp a.eval o).run P w = r at *
      cases r with
      | ok n w' =>
        cases n <;> simp only [Oper.upon] at h ⊢
        case value u => exact h
        case skip => exact h
        case defer d => exact h
        case enter f args =>
          refine Calls.mono h fun e w'' he => ?_
          cases e with
          | returned u => exact he
          | panicked c => exact he
          | outgrown => obtain ⟨a0, w0, h2⟩ := he; exact ⟨a0, w0, h2⟩
        case row row args => exact h
      | halt x w' =>
        cases x <;> simp only [Oper.upon] at h ⊢
        case panic u => exact h
    · exact .inr ⟨h1, a0, w0, h2⟩
  · rename_i hw
    simp only [hw] at h
    exact h

/-- One operation alone is ready. -/
theorem anyR_one {B f : Nat} {R : List Nat} {l l' : Array Bool} {a : Act} {w : World} (i : Nat) (o : Oper) (hi : ops[i]? = some o) (hr : Region.ready .any ops l = [i]) (hl : l.setIfInBounds i true = l')
    (h : wpList P ops (OneR P ops B R f i (NoPanic Q) l' w) [o] a w) : anyR P ops B R (NoPanic Q) (f + 1) l a w :=
  ⟨fun h0 => (by rw [hr] at h0; cases h0), fun j hj => by
    rw [hr] at hj
    obtain rfl : j = i := by simpa using hj
    exact wpOp_oneR hi hl h⟩

/-- Two operations are ready. -/
theorem anyR_two {B f : Nat} {R : List Nat} {l l1 l2 : Array Bool} {a : Act} {w : World} (i j : Nat) (oi oj : Oper) (hi : ops[i]? = some oi) (hj : ops[j]? = some oj) (hr : Region.ready .any ops l = [i, j]) (hl1 : l.setIfInBounds i true = l1) (hl2 : l.setIfInBounds j true = l2)
    (h1 : wpList P ops (OneR P ops B R f i (NoPanic Q) l1 w) [oi] a w) (h2 : wpList P ops (OneR P ops B R f j (NoPanic Q) l2 w) [oj] a w) : anyR P ops B R (NoPanic Q) (f + 1) l a w :=
  ⟨fun h0 => (by rw [hr] at h0; cases h0), fun k hk => by
    rw [hr] at hk
    rcases List.mem_cons.1 hk with rfl | hk
    · exact wpOp_oneR hi hl1 h1
    · obtain rfl : k = j := by simpa using hk
      exact wpOp_oneR hj hl2 h2⟩

/-- Three operations are ready. -/
theorem anyR_three {B f : Nat} {R : List Nat} {l l1 l2 l3 : Array Bool} {a : Act} {w : World} (i j m : Nat) (oi oj om : Oper) (hi : ops[i]? = some oi) (hj : ops[j]? = some oj) (hm : ops[m]? = some om) (hr : Region.ready .any ops l = [i, j, m])
    (hl1 : l.setIfInBounds i true = l1) (hl2 : l.setIfInBounds j true = l2) (hl3 : l.setIfInBounds m true = l3)
    (h1 : wpList P ops (OneR P ops B R f i (NoPanic Q) l1 w) [oi] a w) (h2 : wpList P ops (OneR P ops B R f j (NoPanic Q) l2 w) [oj] a w) (h3 : wpList P ops (OneR P ops B R f m (NoPanic Q) l3 w) [om] a w) : anyR P ops B R (NoPanic Q) (f + 1) l a w :=
  ⟨fun h0 => (by rw [hr] at h0; cases h0), fun k hk => by
    rw [hr] at hk
    rcases List.mem_cons.1 hk with rfl | hk
    · exact wpOp_oneR hi hl1 h1
    rcases List.mem_cons.1 hk with rfl | hk
    · exact wpOp_oneR hj hl2 h2
    · obtain rfl : k = m := by simpa using hk
      exact wpOp_oneR hm hl3 h3⟩

theorem OneR_mk {B f i : Nat} {R : List Nat} {l : Array Bool} {a' : Act} {w w' : World} (hb : Below B w w') (h : anyR P ops B R (NoPanic Q) f l a' w') : OneR P ops B R f i (NoPanic Q) l w .normal a' w' := ⟨hb.mono (by unfold lowR; split <;> omega), h⟩
theorem OneR_rough {B f i : Nat} {R : List Nat} {l : Array Bool} {a' : Act} {w w' : World} (hR : R.contains i = true) (hb : Below 0 w w') (h : anyR P ops B R (NoPanic Q) f l a' w') : OneR P ops B R f i (NoPanic Q) l w .normal a' w' := ⟨hb.mono (by unfold lowR; rw [if_pos hR]; exact Nat.le_refl _), h⟩

theorem anyR_end {B : Nat} {R : List Nat} {l : Array Bool} {a : Act} {w : World} (hr : Region.ready .any ops l = []) (h : Q .normal a w) : anyR P ops B R (NoPanic Q) 0 l a w := ⟨hr, h⟩

/-- The region's door. -/
theorem wp_region_rough {id : Nat} {a : Act} {w : World} {lo : List Oper} (B n : Nat) (R : List Nat) (l : Array Bool) (hm : P.follows .mixedOrders = true) (hn : lo.toArray.size = n) (hl : Array.replicate n false = l)
    (h : anyR P lo.toArray B R (NoPanic Q) n l a w.drew) : (Code.region id lo.toArray true).wp P Q a w :=
  wp_region_noPanic (wp_region_any hm (by rw [hn, hl]; exact anyR_any _ _ _ _ h))

end
end Go.Proofs.Ytepamedbbbfjkaa
