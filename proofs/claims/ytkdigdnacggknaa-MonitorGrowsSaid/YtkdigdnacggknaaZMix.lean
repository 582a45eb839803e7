import Derived.Deep.RegionHeld3
import Derived.Test.YtkdigdnacggknaaZPure
/- A region that draws its order, walked by steps: a plain read or sum that is quiet in every world that is as this one below B may be taken first; an operation that stands alone is carried out; where several stand, each of them. Every step leaves what lies below B. Generic. -/
namespace Go.Proofs.Ytkdigdnacggknaa
open Go.RowKit

section
variable {P : Program} {ops : Array Oper} {Q : Exit → Act → World → Prop}

theorem nth0 {o : Oper} {l : List Oper} : (o :: l).toArray[0]? = some o := by simp
theorem nthS {o x : Oper} {l : List Oper} {i : Nat} (h : l.toArray[i]? = some o) : (x :: l).toArray[i + 1]? = some o := by simpa using h

/-- Operations that yield a value, or halt, but enter no function. -/
def plainOp : Op → Bool
  | .move _ | .assign _ | .pick _ _ _ | .load _ _ | .binOp _ _ _ _ _ | .unOp _ _ _ | .convert _ _ _ | .slice _ _ _ _ _ | .fieldAddr _ _ _ | .field _ _ _ | .indexAddr _ _ _ | .index _ _ _ | .extract _ _ | .build _ _ | .makeInterface _ _ | .makeFunc _ _ _ => true
  | .call { callee := .builtin .len, .. } => true
  | _ => false

theorem run_value_form (s : Sem Value) (w : World) : (∃ v w', (do pure (Next.value (← s)) : Sem Next).run P w = .ok (.value v) w') ∨ (∃ h w', (do pure (Next.value (← s)) : Sem Next).run P w = .halt h w') := by
  rw [Sem.run_bind]
  cases s.run P w with
  | ok v w' => exact .inl ⟨v, w', rfl⟩
  | halt h w' => exact .inr ⟨h, w', rfl⟩

theorem run_plain {o : Oper} (ho : plainOp o.op = true) (ρ : Operand → Value) (w : World) : (∃ v w', (execOp ρ o).run P w = .ok (.value v) w') ∨ (∃ h w', (execOp ρ o).run P w = .halt h w') := by
  unfold execOp
  cases h : o.op
  case move x => exact .inl ⟨_, _, rfl⟩
  case assign x => exact .inl ⟨_, _, rfl⟩
  case pick c a b =>
    simp only [Sem.run_bind]
    cases (asBool (ρ c)).run P w with
    | ok v w' => exact .inl ⟨_, w', rfl⟩
    | halt h w' => exact .inr ⟨h, w', rfl⟩
  case call c =>
    rw [h] at ho
    obtain ⟨callee, args, argTypes⟩ := c
    cases callee with
    | builtin b =>
      cases b <;> first
        | (simp [plainOp] at ho; done)
        | (simp only [resolve, invoke, builtin, Sem.run_bind, Sem.run_pure, Result.andThen_ok]
           generalize Sem.run P (Builtin.len_ _ _ _) w = r
           cases r with
           | ok v w' => exact .inl ⟨v, w', rfl⟩
           | halt x w' => exact .inr ⟨x, w', rfl⟩)
    | value f => simp [plainOp] at ho
    | invoke r m => simp [plainOp] at ho
  all_goals first
    | exact run_value_form _ w
    | (rw [h] at ho; simp [plainOp] at ho; done)

/-- Whatever order is picked from here on; each step leaves what lies below B. -/
def anyB (P : Program) (ops : Array Oper) (B : Nat) (Q : Exit → Act → World → Prop) : Nat → Array Bool → Act → World → Prop
  | 0, listed, a, w => Region.ready .any ops listed = [] ∧ Q .normal a w
  | f + 1, listed, a, w => (Region.ready .any ops listed = [] → Q .normal a w) ∧ ∀ i ∈ Region.ready .any ops listed, wpOp P ops Q i (fun a' w' => Below B w w' ∧ anyB P ops B Q f (listed.setIfInBounds i true) a' w') a w

theorem anyB_any {B : Nat} : ∀ (f : Nat) (listed : Array Bool) (a : Act) (w : World), anyB P ops B Q f listed a w → wpAny P .any ops Q f listed a w
  | 0, _, _, _, h => h
  | f + 1, _, _, _, h => ⟨h.1, fun i hi => wpOp_mono (fun a' w' h' => anyB_any f _ a' w' h'.2) (h.2 i hi)⟩

/-- In every world as w below B the operation yields v and leaves the world. -/
def YieldsB (P : Program) (ops : Array Oper) (B : Nat) (o : Oper) (v : Value) (a : Act) (w : World) : Prop :=
  (Region.wanted o (yielded ops a.tmps) = true ∧ ∀ w', Below B w w' → (execOp a.eval o).run P w' = .ok (.value v) w') ∨ (Region.wanted o (yielded ops a.tmps) = false ∧ v = undef)

theorem YieldsB.wpOp {B i : Nat} {o : Oper} {v : Value} {a : Act} {w : World} (hi : ops[i]? = some o) (hy : YieldsB P ops B o v a w) {K : Act → World → Prop} (h : K (a.put o.dst v) w) : wpOp P ops Q i K a w := by
  unfold Go.wpOp
  simp only [hi]
  rcases hy with ⟨hw, hv⟩ | ⟨hw, rfl⟩
  · simp only [hw, if_true, Oper.wp, hv w (Below.refl _ _), Oper.upon]; exact .inl h
  · simp only [hw, Bool.false_eq_true, if_false]; exact h

theorem YieldsB.of_same {B : Nat} {o : Oper} {v : Value} {a a' : Act} {w w' : World} (hy : YieldsB P ops B o v a w) (he : execOp a'.eval o = execOp a.eval o)
    (hw : Region.wanted o (yielded ops a'.tmps) = Region.wanted o (yielded ops a.tmps)) (hb : Below B w w') : YieldsB P ops B o v a' w' := by
  rcases hy with ⟨h1, h2⟩ | ⟨h1, h2⟩
  · exact .inl ⟨by rw [hw]; exact h1, fun w'' hb' => by rw [he]; exact h2 w'' (hb.trans hb')⟩
  · exact .inr ⟨by rw [hw]; exact h1, h2⟩

theorem anyB_put {B j : Nat} {oi oj : Oper} {v : Value} (hj : ops[j]? = some oj) (hap : oi.apart ops oj = true)
    (hsi : ∀ cs b, oi.op ≠ .select cs b) (hsj : ∀ cs b, oj.op ≠ .select cs b)
    (hQ : ∀ c a w, Q (.panic c) (a.put oi.dst v) w → Q (.panic c) a w) {K : Act → World → Prop} {a : Act} {w : World}
    (hy : YieldsB P ops B oi v a w) (h : wpOp P ops Q j (fun a' w' => Below B w w' ∧ K a' w') (a.put oi.dst v) w) :
    wpOp P ops Q j (fun a' w' => Below B w w' ∧ YieldsB P ops B oi v a' w' ∧ K (a'.put oi.dst v) w') a w := by
  obtain ⟨h1, h2, h3⟩ := Oper.apart_spec hap
  have keep : ∀ (a : Act) (w w' : World), Below B w w' → YieldsB P ops B oi v a w → ∀ u, YieldsB P ops B oi v (a.put oj.dst u) w' := fun a w w' hb hy u =>
    hy.of_same (execOp_put oi hsi a oj.dst u h3) (wanted_put oi a oj.dst u h3) hb
  have keepD : ∀ d, YieldsB P ops B oi v { a with defers := d :: a.defers } w := fun d => hy.of_same rfl rfl (Below.refl _ _)
  unfold wpOp at *
  simp only [hj] at *
  rw [wanted_put oj a oi.dst v h1] at h
  split
  · rename_i hw
    simp only [hw, if_true] at h
    rcases h with h | ⟨hasks, hlets⟩
    case inr => exact .inr ⟨by unfold Oper.asks at *; rw [execOp_put oj hsj a oi.dst v h1] at hasks; exact hasks, hlets⟩
    refine .inl ?_
    unfold Oper.wp at *
    rw [execOp_put oj hsj a oi.dst v h1] at h
    generalize (execOp a.eval oj).run P w = r at *
    cases r with
    | ok n w' =>
      cases n <;> simp only [Oper.upon] at h ⊢
      case value u => exact ⟨h.1, keep a w _ h.1 hy u, by rw [← Act.put_comm a v u h2]; exact h.2⟩
      case skip => exact ⟨h.1, keep a w _ h.1 hy _, by rw [← Act.put_comm a v undef h2]; exact h.2⟩
      case defer d =>
        refine ⟨h.1, keep _ w _ h.1 (keepD d) _, ?_⟩
        rw [← Act.put_comm _ v undef h2, ← Act.put_defers]
        exact h.2
      case enter f args =>
        refine Calls.mono h fun e w'' he => ?_
        cases e with
        | returned u => exact ⟨he.1, keep a w _ he.1 hy u, by rw [← Act.put_comm a v u h2]; exact he.2⟩
        | panicked c => exact hQ _ _ _ he
        | outgrown => exact he
      case row row args => exact Rows.mono h fun u w'' he => ⟨he.1, keep a w _ he.1 hy u, by rw [← Act.put_comm a v u h2]; exact he.2⟩
    | halt x w' =>
      cases x <;> simp only [Oper.upon] at h ⊢
      case panic u => exact hQ _ _ _ h
  · rename_i hw
    simp only [hw] at h
    exact ⟨h.1, keep a w _ h.1 hy _, by rw [← Act.put_comm a v undef h2]; exact h.2⟩

theorem anyB_first {B i : Nat} {oi : Oper} {v : Value} (hi : ops[i]? = some oi) (hsel : ∀ (j : Nat) (o : Oper) cs b, ops[j]? = some o → o.op ≠ .select cs b)
    (hQ : ∀ c a w, Q (.panic c) (a.put oi.dst v) w → Q (.panic c) a w) :
    ∀ (f : Nat) (listed : Array Bool) (a : Act) (w : World),
      (∀ j oj, ops[j]? = some oj → j ≠ i → listed.getD j true = false → (∀ e ∈ oj.after, Region.binds .any e = true → e.on ≠ i) → oi.apart ops oj = true) →
      i ∈ Region.ready .any ops listed → YieldsB P ops B oi v a w →
      anyB P ops B Q f (listed.setIfInBounds i true) (a.put oi.dst v) w → anyB P ops B Q (f + 1) listed a w := by
  intro f
  induction f with
  | zero =>
    intro listed a w _ hr hy H
    refine ⟨fun h => (by rw [h] at hr; cases hr), fun j hj => ?_⟩
    by_cases hji : j = i
    · subst hji; exact hy.wpOp hi ⟨Below.refl _ _, H⟩
    · have := ready_mono hj hji
      rw [H.1] at this
      cases this
  | succ f ih =>
    intro listed a w hfree hr hy H
    refine ⟨fun h => (by rw [h] at hr; cases hr), fun j hj => ?_⟩
    by_cases hji : j = i
    · subst hji; exact hy.wpOp hi ⟨Below.refl _ _, H⟩
    · have h1 := H.2 j (ready_mono hj hji)
      obtain ⟨hjun, oj, hoj, hall⟩ := mem_ready.1 hj
      have hnot : ∀ e ∈ oj.after, Region.binds .any e = true → e.on ≠ i := fun e he hb heq => by
        have h1 := hall e he hb
        rw [heq, getD_both (mem_ready.1 hr).1] at h1
        cases h1
      have h2 := anyB_put hoj (hfree j oj hoj hji hjun hnot) (fun cs b => hsel i oi cs b hi) (fun cs b => hsel j oj cs b hoj) hQ hy h1
      have hfree' : ∀ k ok, ops[k]? = some ok → k ≠ i → (listed.setIfInBounds j true).getD k true = false →
          (∀ e ∈ ok.after, Region.binds .any e = true → e.on ≠ i) → oi.apart ops ok = true := fun k ok hk hki hun hno => by
        refine hfree k ok hk hki ?_ hno
        by_cases hjk : j = k
        · subst hjk; exact hjun
        · rw [getD_set_ne true hjk] at hun; exact hun
      refine wpOp_mono (fun a' w' h3 => ⟨h3.1, ih (listed.setIfInBounds j true) a' w' hfree' (ready_mono hr (Ne.symm hji)) h3.2.1 ?_⟩) h2
      rw [Array.setIfInBounds_comm _ _ hji]
      exact h3.2.2

/-- A plain operation that is quiet below B is taken first. -/
theorem anyB_take {B f : Nat} {l l' : Array Bool} {a : Act} {w : World} (i : Nat) (o : Oper) (hi : ops[i]? = some o) (hp : plainOp o.op = true) (hs : Region.noSelect ops = true) (hf : Region.free .any ops l i = true)
    (hr : (Region.ready .any ops l).contains i = true) (hl : l.setIfInBounds i true = l') (hw : Region.wanted o (yielded ops a.tmps) = true)
    (h : ∀ K : Act → Prop, (∀ a', anyB P ops B (NoPanic Q) f l' a' w → K a') → o.quiet P a (fun w' => ∃ x : ExtW B w, w' = x.val) K) : anyB P ops B (NoPanic Q) (f + 1) l a w := by
  obtain ⟨v, h1, h2⟩ := h _ (fun _ h => h)
  refine anyB_first hi (Region.noSelect_spec hs) (v := v) (fun _ _ _ h => (h : False).elim) f l a w (Region.free_spec hi hf) (by simpa using hr) (.inl ⟨hw, fun w' hb => ?_⟩) (by rw [hl]; exact h2)
  have h3 := h1 w' ⟨⟨w', hb⟩, rfl⟩
  unfold Oper.quietAt at h3
  rcases run_plain (P := P) hp a.eval w' with ⟨u, w2, e⟩ | ⟨x, w2, e⟩
  · rw [e] at h3 ⊢
    obtain ⟨rfl, rfl⟩ := h3
    rfl
  · rw [e] at h3
    exact h3.elim

/-- One whose guard is false is passed over first. -/
theorem anyB_pass {B f : Nat} {l l' : Array Bool} {a : Act} {w : World} (i : Nat) (o : Oper) (hi : ops[i]? = some o) (hs : Region.noSelect ops = true) (hf : Region.free .any ops l i = true)
    (hr : (Region.ready .any ops l).contains i = true) (hl : l.setIfInBounds i true = l') (hw : Region.wanted o (yielded ops a.tmps) = false)
    (h : anyB P ops B (NoPanic Q) f l' (a.put o.dst undef) w) : anyB P ops B (NoPanic Q) (f + 1) l a w :=
  anyB_first hi (Region.noSelect_spec hs) (v := undef) (fun _ _ _ h => (h : False).elim) f l a w (Region.free_spec hi hf) (by simpa using hr) (.inr ⟨hw, rfl⟩) (by rw [hl]; exact h)

/-- What stands behind one operation: the world is as it was below B, and the rest. -/
def OneB (P : Program) (ops : Array Oper) (B f : Nat) (Q : Exit → Act → World → Prop) (l : Array Bool) (w : World) : Exit → Act → World → Prop
  | .normal, a', w' => Below B w w' ∧ anyB P ops B Q f l a' w'
  | e, a', w' => Q e a' w'

theorem wpOp_one {B f i : Nat} {o : Oper} {l l' : Array Bool} {a : Act} {w : World} (hi : ops[i]? = some o) (hl : l.setIfInBounds i true = l')
    (h : wpList P ops (OneB P ops B f (NoPanic Q) l' w) [o] a w) : wpOp P ops (NoPanic Q) i (fun a' w' => Below B w w' ∧ anyB P ops B (NoPanic Q) f (l.setIfInBounds i true) a' w') a w := by
  rw [hl]
  unfold wpOp
  simp only [hi]
  simp only [wpList] at h
  split
  · rename_i hw
    simp only [hw, if_true] at h
    rcases h with h | ⟨h1, a0, w0, h2⟩
    · refine .inl ?_
      unfold Oper.wp at *
      generalize (execOp a.eval o).run P w = r at *
      cases r with
      | ok n w' =>
        cases n <;> simp only [Oper.upon] at h ⊢
        case value u => exact h
        case skip => exact h
        case defer d => exact h
        case enter f args =>
          refine Calls.mono h fun e w'' he => ?_
          cases e with
          | returned u => exact he
          | panicked c => exact he
          | outgrown => obtain ⟨a0, w0, h2⟩ := he; exact ⟨a0, w0, h2⟩
        case row row args => exact h
      | halt x w' =>
        cases x <;> simp only [Oper.upon] at h ⊢
        case panic u => exact h
    · exact .inr ⟨h1, a0, w0, h2⟩
  · rename_i hw
    simp only [hw] at h
    exact h

/-- One operation alone is ready. -/
theorem anyB_one {B f : Nat} {l l' : Array Bool} {a : Act} {w : World} (i : Nat) (o : Oper) (hi : ops[i]? = some o) (hr : Region.ready .any ops l = [i]) (hl : l.setIfInBounds i true = l')
    (h : wpList P ops (OneB P ops B f (NoPanic Q) l' w) [o] a w) : anyB P ops B (NoPanic Q) (f + 1) l a w :=
  ⟨fun h0 => (by rw [hr] at h0; cases h0), fun j hj => by
    rw [hr] at hj
    obtain rfl : j = i := by simpa using hj
    exact wpOp_one hi hl h⟩

/-- Two operations are ready. -/
theorem anyB_two {B f : Nat} {l l1 l2 : Array Bool} {a : Act} {w : World} (i j : Nat) (oi oj : Oper) (hi : ops[i]? = some oi) (hj : ops[j]? = some oj) (hr : Region.ready .any ops l = [i, j]) (hl1 : l.setIfInBounds i true = l1) (hl2 : l.setIfInBounds j true = l2)
    (h1 : wpList P ops (OneB P ops B f (NoPanic Q) l1 w) [oi] a w) (h2 : wpList P ops (OneB P ops B f (NoPanic Q) l2 w) [oj] a w) : anyB P ops B (NoPanic Q) (f + 1) l a w :=
  ⟨fun h0 => (by rw [hr] at h0; cases h0), fun k hk => by
    rw [hr] at hk
    rcases List.mem_cons.1 hk with rfl | hk
    · exact wpOp_one hi hl1 h1
    · obtain rfl : k = j := by simpa using hk
      exact wpOp_one hj hl2 h2⟩

/-- Three operations are ready. -/
theorem anyB_three {B f : Nat} {l l1 l2 l3 : Array Bool} {a : Act} {w : World} (i j m : Nat) (oi oj om : Oper) (hi : ops[i]? = some oi) (hj : ops[j]? = some oj) (hm : ops[m]? = some om) (hr : Region.ready .any ops l = [i, j, m])
    (hl1 : l.setIfInBounds i true = l1) (hl2 : l.setIfInBounds j true = l2) (hl3 : l.setIfInBounds m true = l3)
    (h1 : wpList P ops (OneB P ops B f (NoPanic Q) l1 w) [oi] a w) (h2 : wpList P ops (OneB P ops B f (NoPanic Q) l2 w) [oj] a w) (h3 : wpList P ops (OneB P ops B f (NoPanic Q) l3 w) [om] a w) : anyB P ops B (NoPanic Q) (f + 1) l a w :=
  ⟨fun h0 => (by rw [hr] at h0; cases h0), fun k hk => by
    rw [hr] at hk
    rcases List.mem_cons.1 hk with rfl | hk
    · exact wpOp_one hi hl1 h1
    rcases List.mem_cons.1 hk with rfl | hk
    · exact wpOp_one hj hl2 h2
    · obtain rfl : k = m := by simpa using hk
      exact wpOp_one hm hl3 h3⟩

theorem OneB_mk {B f : Nat} {l : Array Bool} {a' : Act} {w w' : World} (hb : Below B w w') (h : anyB P ops B (NoPanic Q) f l a' w') : OneB P ops B f (NoPanic Q) l w .normal a' w' := ⟨hb, h⟩

theorem anyB_end {B : Nat} {l : Array Bool} {a : Act} {w : World} (hr : Region.ready .any ops l = []) (h : Q .normal a w) : anyB P ops B (NoPanic Q) 0 l a w := ⟨hr, h⟩

/-- The region's door. -/
theorem wp_region_mix {id : Nat} {a : Act} {w : World} {lo : List Oper} (B n : Nat) (l : Array Bool) (hm : P.follows .mixedOrders = true) (hn : lo.toArray.size = n) (hl : Array.replicate n false = l)
    (h : anyB P lo.toArray B (NoPanic Q) n l a w.drew) : (Code.region id lo.toArray true).wp P Q a w :=
  wp_region_noPanic (wp_region_any hm (by rw [hn, hl]; exact anyB_any _ _ _ _ h))

end
end Go.Proofs.Ytkdigdnacggknaa
/- As the text Mix, for a region whose operations from n on stand in one forced order behind all others: the head in whatever order, each step leaving what lies below B; then the tail in order, with no such bond. Generic. -/
namespace Go.Proofs.Ytkdigdnacggknaa
open Go.RowKit

section
variable {P : Program} {ops : Array Oper} {Q : Exit → Act → World → Prop}

/-- The head's operations in whatever order, each below n and leaving what lies below B; then L. -/
def anyT (P : Program) (ops : Array Oper) (B n : Nat) (Q : Exit → Act → World → Prop) (L : Array Bool → Act → World → Prop) : Nat → Array Bool → Act → World → Prop
  | 0, listed, a, w => L listed a w
  | f + 1, listed, a, w => Region.ready .any ops listed ≠ [] ∧ ∀ i ∈ Region.ready .any ops listed, i < n ∧ wpOp P ops Q i (fun a' w' => Below B w w' ∧ anyT P ops B n Q L f (listed.setIfInBounds i true) a' w') a w

theorem anyT_any {B n g : Nat} {L : Array Bool → Act → World → Prop} (hL : ∀ listed a w, L listed a w → wpAny P .any ops Q g listed a w) : ∀ (f : Nat) (listed : Array Bool) (a : Act) (w : World), anyT P ops B n Q L f listed a w → wpAny P .any ops Q (f + g) listed a w
  | 0, _, _, _, h => by rw [Nat.zero_add]; exact hL _ _ _ h
  | f + 1, _, _, _, h => by
    rw [show f + 1 + g = (f + g) + 1 by omega]
    exact ⟨fun h0 => absurd h0 h.1, fun i hi => wpOp_mono (fun a' w' h' => anyT_any hL f _ a' w' h'.2) (h.2 i hi).2⟩

theorem anyT_first {B n i : Nat} {oi : Oper} {v : Value} {L : Array Bool → Act → World → Prop} (hi : ops[i]? = some oi) (hsel : ∀ (j : Nat) (o : Oper) cs b, ops[j]? = some o → o.op ≠ .select cs b)
    (hQ : ∀ c a w, Q (.panic c) (a.put oi.dst v) w → Q (.panic c) a w)
    (hs : Region.sinkB .any ops n = true) (hc : Region.chainB .any ops n = true) (hn : n < ops.size) (hin : i < n)
    (hdone : ∀ listed a w, L listed a w → ∀ j ∈ Region.ready .any ops listed, n ≤ j) :
    ∀ (f : Nat) (listed : Array Bool) (a : Act) (w : World), HeadInv .any ops n listed →
      (∀ j oj, ops[j]? = some oj → j ≠ i → listed.getD j true = false → (∀ e ∈ oj.after, Region.binds .any e = true → e.on ≠ i) → oi.apart ops oj = true) →
      i ∈ Region.ready .any ops listed → YieldsB P ops B oi v a w →
      anyT P ops B n Q L f (listed.setIfInBounds i true) (a.put oi.dst v) w → anyT P ops B n Q L (f + 1) listed a w := by
  intro f
  induction f with
  | zero =>
    intro listed a w inv _ hr hy H
    have hun := (mem_ready.1 hr).1
    refine ⟨fun h => (by rw [h] at hr; cases hr), fun j hj => ?_⟩
    have hjn : j < n := by
      rcases Nat.lt_or_ge j n with h | h
      · exact h
      · exact absurd hj (tail_waits hs hc hn inv _ i rfl hin hun j h)
    refine ⟨hjn, ?_⟩
    by_cases hji : j = i
    · subst hji; exact hy.wpOp hi ⟨Below.refl _ _, H⟩
    · have := hdone _ _ _ H j (ready_mono hj hji)
      omega
  | succ f ih =>
    intro listed a w inv hfree hr hy H
    have hun := (mem_ready.1 hr).1
    refine ⟨fun h => (by rw [h] at hr; cases hr), fun j hj => ?_⟩
    have hjn : j < n := by
      rcases Nat.lt_or_ge j n with h | h
      · exact h
      · exact absurd hj (tail_waits hs hc hn inv _ i rfl hin hun j h)
    refine ⟨hjn, ?_⟩
    by_cases hji : j = i
    · subst hji; exact hy.wpOp hi ⟨Below.refl _ _, H⟩
    · have h1 := (H.2 j (ready_mono hj hji)).2
      obtain ⟨hjun, oj, hoj, hall⟩ := mem_ready.1 hj
      have hnot : ∀ e ∈ oj.after, Region.binds .any e = true → e.on ≠ i := fun e he hb heq => by
        have h1 := hall e he hb
        rw [heq, getD_both hun] at h1
        cases h1
      have h2 := anyB_put hoj (hfree j oj hoj hji hjun hnot) (fun cs b => hsel i oi cs b hi) (fun cs b => hsel j oj cs b hoj) hQ hy h1
      have hfree' : ∀ k ok, ops[k]? = some ok → k ≠ i → (listed.setIfInBounds j true).getD k true = false →
          (∀ e ∈ ok.after, Region.binds .any e = true → e.on ≠ i) → oi.apart ops ok = true := fun k ok hk hki hun hno => by
        refine hfree k ok hk hki ?_ hno
        by_cases hjk : j = k
        · subst hjk; exact hjun
        · rw [getD_set_ne true hjk] at hun; exact hun
      refine wpOp_mono (fun a' w' h3 => ⟨h3.1, ih (listed.setIfInBounds j true) a' w' (inv.set hj hjn) hfree' (ready_mono hr (Ne.symm hji)) h3.2.1 ?_⟩) h2
      rw [Array.setIfInBounds_comm _ _ hji]
      exact h3.2.2

/-- The tail in its order. -/
def TailT (P : Program) (ops : Array Oper) (n g : Nat) (Q : Exit → Act → World → Prop) (l : Array Bool) (a : Act) (w : World) : Prop := Region.seqB .any ops g n l = true ∧ wpList P ops Q (ops.toList.drop n) a w

/-- With what the lists of done operations keep. -/
def anyTI (P : Program) (ops : Array Oper) (B n g : Nat) (Q : Exit → Act → World → Prop) (f : Nat) (l : Array Bool) (a : Act) (w : World) : Prop := HeadInv .any ops n l → anyT P ops B n Q (TailT P ops n g Q) f l a w

/-- What stands behind one operation. -/
def OneT (B : Nat) (Q : Exit → Act → World → Prop) (K : Act → World → Prop) (w : World) : Exit → Act → World → Prop
  | .normal, a', w' => Below B w w' ∧ K a' w'
  | e, a', w' => Q e a' w'

theorem wpOp_oneT {B i : Nat} {K : Act → World → Prop} {o : Oper} {a : Act} {w : World} (hi : ops[i]? = some o)
    (h : wpList P ops (OneT B (NoPanic Q) K w) [o] a w) : wpOp P ops (NoPanic Q) i (fun a' w' => Below B w w' ∧ K a' w') a w := by
  unfold wpOp
  simp only [hi]
  simp only [wpList] at h
  split
  · rename_i hw
    simp only [hw, if_true] at h
    rcases h with h | ⟨h1, a0, w0, h2⟩
    · refine .inl ?_
      unfold Oper.wp at *
      generalize (execOp a.eval o).run P w = r at *
      cases r with
      | ok n w' =>
        cases n <;> simp only [Oper.upon] at h ⊢
        case value u => exact h
        case skip => exact h
        case defer d => exact h
        case enter f args =>
          refine Calls.mono h fun e w'' he => ?_
          cases e with
          | returned u => exact he
          | panicked c => exact he
          | outgrown => obtain ⟨a0, w0, h2⟩ := he; exact ⟨a0, w0, h2⟩
        case row row args => exact h
      | halt x w' =>
        cases x <;> simp only [Oper.upon] at h ⊢
        case panic u => exact h
    · exact .inr ⟨h1, a0, w0, h2⟩
  · rename_i hw
    simp only [hw] at h
    exact h

theorem anyT_take {B n g f : Nat} {l l' : Array Bool} {a : Act} {w : World} (i : Nat) (o : Oper) (hi : ops[i]? = some o) (hp : plainOp o.op = true) (hs : Region.noSelect ops = true)
    (hk : (Region.sinkB .any ops n && Region.chainB .any ops n && decide (n < ops.size) && decide (i < n)) = true) (hf : Region.free .any ops l i = true)
    (hr : (Region.ready .any ops l).contains i = true) (hl : l.setIfInBounds i true = l') (hw : Region.wanted o (yielded ops a.tmps) = true)
    (h : ∀ K : Act → Prop, (∀ a', anyTI P ops B n g (NoPanic Q) f l' a' w → K a') → o.quiet P a (fun w' => ∃ x : ExtW B w, w' = x.val) K) : anyTI P ops B n g (NoPanic Q) (f + 1) l a w := fun inv => by
  obtain ⟨v, h1, h2⟩ := h _ (fun _ h => h)
  simp only [Bool.and_eq_true, decide_eq_true_eq] at hk
  obtain ⟨⟨⟨k1, k2⟩, k3⟩, k4⟩ := hk
  have hr' : i ∈ Region.ready .any ops l := by simpa using hr
  refine anyT_first hi (Region.noSelect_spec hs) (v := v) (fun _ _ _ h => (h : False).elim) k1 k2 k3 k4 (fun _ _ _ hL => seqB_ready hL.1) f l a w inv (Region.free_spec hi hf) hr' (.inl ⟨hw, fun w' hb => ?_⟩) (by rw [hl]; exact h2 (by rw [← hl]; exact inv.set hr' k4))
  have h3 := h1 w' ⟨⟨w', hb⟩, rfl⟩
  unfold Oper.quietAt at h3
  rcases run_plain (P := P) hp a.eval w' with ⟨u, w2, e⟩ | ⟨x, w2, e⟩
  · rw [e] at h3 ⊢
    obtain ⟨rfl, rfl⟩ := h3
    rfl
  · rw [e] at h3
    exact h3.elim

theorem anyT_one {B n g f : Nat} {l l' : Array Bool} {a : Act} {w : World} (i : Nat) (o : Oper) (hi : ops[i]? = some o) (hr : Region.ready .any ops l = [i]) (hl : l.setIfInBounds i true = l') (hin : decide (i < n) = true)
    (h : wpList P ops (OneT B (NoPanic Q) (anyTI P ops B n g (NoPanic Q) f l') w) [o] a w) : anyTI P ops B n g (NoPanic Q) (f + 1) l a w := fun inv =>
  ⟨fun h0 => (by rw [hr] at h0; cases h0), fun j hj => by
    have hij := hj
    rw [hr] at hij
    obtain rfl : j = i := by simpa using hij
    refine ⟨of_decide_eq_true hin, wpOp_mono (fun a' w' h' => ⟨h'.1, ?_⟩) (wpOp_oneT hi h)⟩
    have := h'.2
    rw [hl]
    exact this (by rw [← hl]; exact inv.set hj (of_decide_eq_true hin))⟩

theorem anyT_end {B n g : Nat} {l : Array Bool} {a : Act} {w : World} (hr : Region.seqB .any ops g n l = true) (h : wpList P ops (NoPanic Q) (ops.toList.drop n) a w) : anyTI P ops B n g (NoPanic Q) 0 l a w := fun _ => ⟨hr, h⟩

theorem OneT_mk {B : Nat} {K : Act → World → Prop} {a' : Act} {w w' : World} (hb : Below B w w') (h : K a' w') : OneT B Q K w .normal a' w' := ⟨hb, h⟩

/-- The region's door. -/
theorem wp_region_mixT {id : Nat} {a : Act} {w : World} {lo : List Oper} (B n g : Nat) (l : Array Bool) (hm : P.follows .mixedOrders = true) (hn : lo.toArray.size = n + g) (hl : Array.replicate (n + g) false = l)
    (h : anyTI P lo.toArray B n g (NoPanic Q) n l a w.drew) : (Code.region id lo.toArray true).wp P Q a w := by
  have inv0 : HeadInv .any lo.toArray n (Array.replicate (n + g) false) :=
    ⟨by simp [← hn], fun j oj _ hl => (by rw [getD_replicate_false] at hl; cases hl), fun t _ ht => getD_in (by simpa [← hn] using ht) (getD_replicate_false _ _)⟩
  have hdl : (lo.drop n).length = g := by simp at hn ⊢; omega
  refine wp_region_noPanic (wp_region_any hm ?_)
  rw [hn, hl]
  refine anyT_any (fun listed a' w' hL => ?_) n l a w.drew (h (by rw [← hl]; exact inv0))
  have := wpAny_of_seq (md := .any) (Q' := NoPanic Q) (lo.drop n) n listed a' w' (fun j => by simp [List.getElem?_drop]) (by rw [hdl]; exact hL.1) hL.2
  rwa [hdl] at this
end
end Go.Proofs.Ytkdigdnacggknaa
