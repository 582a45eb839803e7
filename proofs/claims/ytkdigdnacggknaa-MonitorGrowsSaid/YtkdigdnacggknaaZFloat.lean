import Derived.Lib.SliceRun
import Derived.OwnWalk
import Derived.Test.YtkdigdnacggknaaZMix
import Derived.Test.YtkdigdnacggknaaZPure
/- A region that draws its order: quiet operations (calls among them), and allocations of variables that may come at any time among them ('floats'); then a tail in one forced order that waits for all of them. One walk: the quiet ones in the text's order, then the floats, then the tail. Generic. -/
namespace Go.Proofs.Ytkdigdnacggknaa
open Go.RowKit

/-- The worlds that are w below B and in which the blocks of G stand as they were made. -/
structure ExtG (B : Nat) (w : World) (G : List (Nat × Obj)) where
  val : World
  below : Below B w val
  holds : ∀ g o, (g, o) ∈ G → val.heap[g]? = some o

def InG (B : Nat) (w : World) (G : List (Nat × Obj)) (w' : World) : Prop := ∃ x : ExtG B w G, w' = x.val

theorem ExtG.cell {B : Nat} {w : World} {G : List (Nat × Obj)} (x : ExtG B w G) (p : Addr) (h : p.block < B) : x.val.cell? p = w.cell? p := x.below.cell h
theorem Row.extG {w : World} {b B : Nat} {cs : List Value} (h : Row w b cs) (hB : b < B) : ∀ (G : List (Nat × Obj)) (x : ExtG B w G) (i : Nat), x.val.cell? ⟨b, i, none⟩ = cs[i]? := fun _ x i => (x.cell _ hB).trans (h i)

theorem holds_later {w' w'' : World} {G : List (Nat × Obj)} (hh : ∀ g o, (g, o) ∈ G → w'.heap[g]? = some o) (hb : Below w'.heap.size w' w'') : ∀ g o, (g, o) ∈ G → w''.heap[g]? = some o := fun g o hg => by
  have h := hh g o hg
  have hlt : g < w'.heap.size := by
    rcases Nat.lt_or_ge g w'.heap.size with h' | h'
    · exact h'
    · rw [Array.getElem?_eq_none h'] at h; cases h
  rw [hb.block g hlt]; exact h

/-- Block g of w is just the cells cs, none frozen. -/
def Blk (w : World) (g : Nat) (t : TypeId) (cs : List Value) : Prop := w.heap[g]? = some (.cells cs.toArray t (0, 0))
section
variable {w w' : World} {g : Nat} {t : TypeId} {cs : List Value}
theorem Blk.lt (h : Blk w g t cs) : g < w.heap.size := by
  rcases Nat.lt_or_ge g w.heap.size with hlt | hge
  · exact hlt
  · unfold Blk at h; rw [Array.getElem?_eq_none hge] at h; cases h
theorem Blk.row (h : Blk w g t cs) : Row w g cs := fun i => by
  unfold World.cell?
  unfold Blk at h
  rw [show (⟨g, i, none⟩ : Addr).block = g from rfl, h]
  simp
theorem Blk.frozen (h : Blk w g t cs) (i : Nat) : w.frozen? ⟨g, i, none⟩ = false := by
  unfold World.frozen?
  unfold Blk at h
  rw [show (⟨g, i, none⟩ : Addr).block = g from rfl, h]
  simp
theorem Blk.new (w : World) (t : TypeId) (cs : List Value) : Blk (w.alloc (.cells cs.toArray t)) w.heap.size t cs := heap_alloc_new w _
theorem Blk.drew (h : Blk w g t cs) : Blk w.drew g t cs := h
theorem Blk.drewN (h : Blk w g t cs) (n : Nat) : Blk (w.drewN n) g t cs := h
theorem Blk.alloc (h : Blk w g t cs) (o : Obj) : Blk (w.alloc o) g t cs := (Below.heap_alloc w o g h.lt).trans h
theorem Blk.set_ (h : Blk w g t cs) (i : Nat) (u : Value) : Blk (w.setCell ⟨g, i, none⟩ u) g t (cs.set i u) := by
  unfold Blk at h ⊢
  simp [World.setCell, Array.getElem?_modify, h]
theorem Blk.far (h : Blk w g t cs) {p : Addr} (hp : g ≠ p.block) (u : Value) : Blk (w.setCell p u) g t cs := (Below.heap_setCell w p u g hp).trans h
theorem Blk.below {B : Nat} (h : Blk w g t cs) (hb : Below B w w') (hg : g < B) : Blk w' g t cs := (hb.block g hg).trans h
end

section
variable {P : Program} {ops : Array Oper}

/-- A callee's contract, met at such a world. -/
theorem Calls.extG_of {f : FuncId} {args : Array Value} {w : World} {B : Nat} {G : List (Nat × Obj)} {x : ExtG B w G} {v : Value}
    (h : Calls P f args x.val fun e w' => e = .returned v ∧ Below x.val.heap.size x.val w') (hB : B ≤ w.heap.size) : Calls P f args x.val fun e w'' => e = .returned v ∧ ∃ y : ExtG B w G, w'' = y.val :=
  h.mono fun _ w' ⟨he, hm⟩ => ⟨he, ⟨w', x.below.trans (hm.mono (Nat.le_trans hB x.below.size)), holds_later x.holds hm⟩, rfl⟩
theorem Calls.extG_same {f : FuncId} {args : Array Value} {w : World} {B : Nat} {G : List (Nat × Obj)} {x : ExtG B w G} {v : Value}
    (h : Calls P f args x.val fun e w' => e = .returned v ∧ x.val = w') : Calls P f args x.val fun e w'' => e = .returned v ∧ ∃ y : ExtG B w G, w'' = y.val :=
  h.mono fun _ _ ⟨he, hm⟩ => ⟨he, x, hm.symm⟩

/-- An allocation: what it makes. -/
def IsFloat (P : Program) (o : Oper) (d : Tmp) (ob : Obj) : Prop := o.dst = some d ∧ o.guard = none ∧ ∀ (a : Act) (w : World), (execOp a.eval o).run P w = .ok (.value (.pointer (some ⟨w.heap.size, 0, none⟩))) (w.alloc ob)

/-- The quiet operations and the floats in whatever order; then L. -/
def anyF (P : Program) (ops : Array Oper) (B n : Nat) (w : World) (fl : Nat → Option (Tmp × Obj)) (L : Array Bool → Act → List (Nat × Obj) → Prop) : Nat → Array Bool → Act → List (Nat × Obj) → Prop
  | 0, l, a, G => L l a G
  | f + 1, l, a, G => Region.ready .any ops l ≠ [] ∧ ∀ i ∈ Region.ready .any ops l, i < n ∧
      match fl i with
      | none => qOp P ops (InG B w G) i (fun a' => anyF P ops B n w fl L f (l.setIfInBounds i true) a' G) a
      | some (d, ob) => ∀ g, B ≤ g → (∀ g' o', (g', o') ∈ G → g ≠ g') → anyF P ops B n w fl L f (l.setIfInBounds i true) (a.put (some d) (.pointer (some ⟨g, 0, none⟩))) ((g, ob) :: G)

variable {B n : Nat} {w : World} {fl : Nat → Option (Tmp × Obj)} {L : Array Bool → Act → List (Nat × Obj) → Prop}

theorem anyF_wp {g : Nat} {Q : Exit → Act → World → Prop} (hB : B ≤ w.heap.size) (hfl : ∀ i d ob, fl i = some (d, ob) → ∃ o, ops[i]? = some o ∧ IsFloat P o d ob)
    (hL : ∀ l a G, L l a G → ∀ w', InG B w G w' → wpAny P .any ops Q g l a w') :
    ∀ (f : Nat) (l : Array Bool) (a : Act) (G : List (Nat × Obj)), anyF P ops B n w fl L f l a G → ∀ w', InG B w G w' → wpAny P .any ops Q (f + g) l a w'
  | 0, l, a, G, h, w', hw => by rw [Nat.zero_add]; exact hL _ _ _ h w' hw
  | f + 1, l, a, G, h, w', hw => by
    rw [show f + 1 + g = (f + g) + 1 by omega]
    refine ⟨fun h0 => absurd h0 h.1, fun i hi => ?_⟩
    have h1 := (h.2 i hi).2
    cases hf : fl i with
    | none =>
      simp only [hf] at h1
      exact wpOp_of_qOp hw (fun a' w'' hw' h' => anyF_wp hB hfl hL f _ a' G h' w'' hw') h1
    | some p =>
      obtain ⟨d, ob⟩ := p
      simp only [hf] at h1
      obtain ⟨o, ho, hd, hg, hrun⟩ := hfl i d ob hf
      obtain ⟨x, rfl⟩ := hw
      unfold wpOp
      simp only [ho]
      have hwt : Region.wanted o (yielded ops a.tmps) = true := by simp [Region.wanted, hg]
      simp only [hwt, if_true]
      refine .inl ?_
      unfold Oper.wp
      rw [hrun, Oper.upon_value, hd]
      have hsz := x.below.size
      refine anyF_wp hB hfl hL f _ _ _ (h1 x.val.heap.size (Nat.le_trans hB hsz) (fun g' o' hg' e => ?_)) _ ⟨⟨x.val.alloc ob, x.below.alloc (Nat.le_trans hB hsz) _, fun g' o' hg' => ?_⟩, rfl⟩
      · have := x.holds g' o' hg'
        rw [← e, Array.getElem?_eq_none (Nat.le_refl _)] at this
        cases this
      · rcases List.mem_cons.1 hg' with e | hg'
        · injection e with e1 e2
          rw [e1, e2]
          exact heap_alloc_new x.val ob
        · exact holds_later (w' := x.val) x.holds ((Below.refl _ _).alloc (Nat.le_refl _) _) g' o' hg'

/-- A quiet operation is taken first. -/
theorem anyF_first {i : Nat} {oi : Oper} {v : Value} (hi : ops[i]? = some oi) (hsel : ∀ (j : Nat) (o : Oper) cs b, ops[j]? = some o → o.op ≠ .select cs b)
    (hfl : ∀ i d ob, fl i = some (d, ob) → ∃ o, ops[i]? = some o ∧ IsFloat P o d ob) (hfi : fl i = none)
    (hs : Region.sinkB .any ops n = true) (hc : Region.chainB .any ops n = true) (hn : n < ops.size) (hin : i < n)
    (hdone : ∀ l a G, L l a G → ∀ j ∈ Region.ready .any ops l, n ≤ j) :
    ∀ (f : Nat) (l : Array Bool) (a : Act) (G : List (Nat × Obj)), HeadInv .any ops n l →
      (∀ j oj, ops[j]? = some oj → j ≠ i → l.getD j true = false → (∀ e ∈ oj.after, Region.binds .any e = true → e.on ≠ i) → oi.apart ops oj = true) →
      i ∈ Region.ready .any ops l → (∀ G, YieldsIn P ops (InG B w G) oi v a) →
      anyF P ops B n w fl L f (l.setIfInBounds i true) (a.put oi.dst v) G → anyF P ops B n w fl L (f + 1) l a G := by
  intro f
  induction f with
  | zero =>
    intro l a G inv _ hr hy H
    have hun := (mem_ready.1 hr).1
    refine ⟨fun h => (by rw [h] at hr; cases hr), fun j hj => ?_⟩
    have hjn : j < n := by
      rcases Nat.lt_or_ge j n with h | h
      · exact h
      · exact absurd hj (tail_waits hs hc hn inv _ i rfl hin hun j h)
    refine ⟨hjn, ?_⟩
    by_cases hji : j = i
    · subst hji; simp only [hfi]; exact (hy G).qOp hi H
    · have := hdone _ _ _ H j (ready_mono hj hji)
      omega
  | succ f ih =>
    intro l a G inv hfree hr hy H
    have hun := (mem_ready.1 hr).1
    refine ⟨fun h => (by rw [h] at hr; cases hr), fun j hj => ?_⟩
    have hjn : j < n := by
      rcases Nat.lt_or_ge j n with h | h
      · exact h
      · exact absurd hj (tail_waits hs hc hn inv _ i rfl hin hun j h)
    refine ⟨hjn, ?_⟩
    by_cases hji : j = i
    · subst hji; simp only [hfi]; exact (hy G).qOp hi H
    · have h1 := (H.2 j (ready_mono hj hji)).2
      obtain ⟨hjun, oj, hoj, hall⟩ := mem_ready.1 hj
      have hnot : ∀ e ∈ oj.after, Region.binds .any e = true → e.on ≠ i := fun e he hb heq => by
        have h1 := hall e he hb
        rw [heq, getD_both hun] at h1
        cases h1
      have hap := hfree j oj hoj hji hjun hnot
      have hfree' : ∀ k ok, ops[k]? = some ok → k ≠ i → (l.setIfInBounds j true).getD k true = false →
          (∀ e ∈ ok.after, Region.binds .any e = true → e.on ≠ i) → oi.apart ops ok = true := fun k ok hk hki hun hno => by
        refine hfree k ok hk hki ?_ hno
        by_cases hjk : j = k
        · subst hjk; exact hjun
        · rw [getD_set_ne true hjk] at hun; exact hun
      obtain ⟨p1, p2, p3⟩ := Oper.apart_spec hap
      cases hfj : fl j with
      | none =>
        simp only [hfj] at h1 ⊢
        have hyk : ∀ u, ∀ G, YieldsIn P ops (InG B w G) oi v (a.put oj.dst u) := fun u G => (hy G).of_same (execOp_put oi (fun cs b => hsel i oi cs b hi) a oj.dst u p3) (wanted_put oi a oj.dst u p3)
        unfold qOp at h1 ⊢
        simp only [hoj] at h1 ⊢
        rw [wanted_put oj a oi.dst v p1] at h1
        split
        · rename_i hw
          simp only [hw, if_true] at h1
          obtain ⟨u, hu, hnx⟩ := h1
          refine ⟨u, fun w' hw' => ?_, ih (l.setIfInBounds j true) _ G (inv.set hj hjn) hfree' (ready_mono hr (Ne.symm hji)) (hyk u) ?_⟩
          · have := hu w' hw'
            unfold Oper.quietAt at *
            rwa [execOp_put oj (fun cs b => hsel j oj cs b hoj) a oi.dst v p1] at this
          · rw [Array.setIfInBounds_comm _ _ hji, ← Act.put_comm a v u p2]; exact hnx
        · rename_i hw
          simp only [hw] at h1
          refine ih (l.setIfInBounds j true) _ G (inv.set hj hjn) hfree' (ready_mono hr (Ne.symm hji)) (hyk undef) ?_
          rw [Array.setIfInBounds_comm _ _ hji, ← Act.put_comm a v undef p2]; exact h1
      | some p =>
        obtain ⟨d, ob⟩ := p
        simp only [hfj] at h1 ⊢
        obtain ⟨o', ho', hd, hgd, hrun⟩ := hfl j d ob hfj
        obtain rfl : o' = oj := Option.some.inj (ho'.symm.trans hoj)
        intro g hg hfresh
        have h2 := h1 g hg hfresh
        rw [← hd] at h2 ⊢
        refine ih (l.setIfInBounds j true) _ _ (inv.set hj hjn) hfree' (ready_mono hr (Ne.symm hji)) (fun G => (hy G).of_same (execOp_put oi (fun cs b => hsel i oi cs b hi) a o'.dst _ p3) (wanted_put oi a o'.dst _ p3)) ?_
        rw [Array.setIfInBounds_comm _ _ hji, ← Act.put_comm a v _ p2]; exact h2

/-- A state of the walk. -/
def FS (P : Program) (ops : Array Oper) (B n : Nat) (w : World) (fl : Nat → Option (Tmp × Obj)) (L : Array Bool → Act → List (Nat × Obj) → Prop) (f : Nat) (l : Array Bool) (a : Act) (G : List (Nat × Obj)) : Prop :=
  HeadInv .any ops n l → anyF P ops B n w fl L f l a G

/-- What the tail's walk asks. -/
def TailL (P : Program) (ops : Array Oper) (B n m : Nat) (w : World) (Q : Exit → Act → World → Prop) (tl : List Oper) (l : Array Bool) (a : Act) (G : List (Nat × Obj)) : Prop :=
  Region.seqB .any ops m n l = true ∧ ∀ w', InG B w G w' → wpList P ops Q tl a w'

/-- The facts on the region that are the same at every step. -/
structure FloatOk (P : Program) (ops : Array Oper) (n : Nat) (fl : Nat → Option (Tmp × Obj)) : Prop where
  sel : Region.noSelect ops = true
  sink : Region.sinkB .any ops n = true
  chain : Region.chainB .any ops n = true
  size : n < ops.size
  floats : ∀ i d ob, fl i = some (d, ob) → ∃ o, ops[i]? = some o ∧ IsFloat P o d ob

variable {Q : Exit → Act → World → Prop} {m : Nat} {tl : List Oper}

theorem FS_plain {f : Nat} {l l' : Array Bool} {a : Act} {G : List (Nat × Obj)} (i : Nat) (o : Oper) (hi : ops[i]? = some o) (hp : plainOp o.op = true) (ok : FloatOk P ops n fl) (hf : Region.free .any ops l i = true)
    (hr : (Region.ready .any ops l).contains i = true) (hl : l.setIfInBounds i true = l') (hfi : fl i = none) (hin : i < n) (hw : Region.wanted o (yielded ops a.tmps) = true)
    (h : ∀ K : Act → Prop, (∀ a', FS P ops B n w fl (TailL P ops B n m w Q tl) f l' a' G → K a') → o.quiet P a (fun w' => ∃ x : ExtW B w, w' = x.val) K) : FS P ops B n w fl (TailL P ops B n m w Q tl) (f + 1) l a G := by
  obtain ⟨v, h1, h2⟩ := h _ (fun _ h => h)
  intro inv
  have hr' : i ∈ Region.ready .any ops l := by simpa using hr
  refine anyF_first hi (Region.noSelect_spec ok.sel) ok.floats hfi ok.sink ok.chain ok.size hin (fun _ _ _ hL => seqB_ready hL.1) f l a G inv (Region.free_spec hi hf) hr' (v := v) (fun G' => .inl ⟨hw, ?_⟩) (by rw [hl]; exact h2 (by rw [← hl]; exact inv.set hr' hin))
  rintro w' ⟨x, rfl⟩
  have h3 := h1 x.val ⟨⟨x.val, x.below⟩, rfl⟩
  unfold Oper.quietAt at h3 ⊢
  rcases run_plain (P := P) hp a.eval x.val with ⟨u, w2, e⟩ | ⟨y, w2, e⟩
  · rw [e] at h3 ⊢; exact h3
  · rw [e] at h3; exact h3.elim

theorem FS_pass {f : Nat} {l l' : Array Bool} {a : Act} {G : List (Nat × Obj)} (i : Nat) (o : Oper) (hi : ops[i]? = some o) (ok : FloatOk P ops n fl) (hf : Region.free .any ops l i = true)
    (hr : (Region.ready .any ops l).contains i = true) (hl : l.setIfInBounds i true = l') (hfi : fl i = none) (hin : i < n) (hw : Region.wanted o (yielded ops a.tmps) = false)
    (h : FS P ops B n w fl (TailL P ops B n m w Q tl) f l' (a.put o.dst undef) G) : FS P ops B n w fl (TailL P ops B n m w Q tl) (f + 1) l a G := by
  intro inv
  have hr' : i ∈ Region.ready .any ops l := by simpa using hr
  exact anyF_first hi (Region.noSelect_spec ok.sel) ok.floats hfi ok.sink ok.chain ok.size hin (fun _ _ _ hL => seqB_ready hL.1) f l a G inv (Region.free_spec hi hf) hr' (v := undef) (fun G' => .inr ⟨hw, rfl⟩) (by rw [hl]; exact h (by rw [← hl]; exact inv.set hr' hin))

/-- A call whose answer hangs on nothing but what lies below B. -/
theorem FS_call {f : Nat} {l l' : Array Bool} {a : Act} {G : List (Nat × Obj)} {fn : FuncId} {args : Array Value} {v : Value} (i : Nat) (o : Oper) (hi : ops[i]? = some o) (ok : FloatOk P ops n fl) (hB : B ≤ w.heap.size) (hf : Region.free .any ops l i = true)
    (hr : (Region.ready .any ops l).contains i = true) (hl : l.setIfInBounds i true = l') (hfi : fl i = none) (hin : i < n) (hw : Region.wanted o (yielded ops a.tmps) = true)
    (hex : ∀ w, (execOp a.eval o).run P w = .ok (.enter fn args) w)
    (con : ∀ x : ExtW B w, Calls P fn args x.val fun e w'' => e = .returned v ∧ Below x.val.heap.size x.val w'')
    (h : FS P ops B n w fl (TailL P ops B n m w Q tl) f l' (a.put o.dst v) G) : FS P ops B n w fl (TailL P ops B n m w Q tl) (f + 1) l a G := by
  intro inv
  have hr' : i ∈ Region.ready .any ops l := by simpa using hr
  refine anyF_first hi (Region.noSelect_spec ok.sel) ok.floats hfi ok.sink ok.chain ok.size hin (fun _ _ _ hL => seqB_ready hL.1) f l a G inv (Region.free_spec hi hf) hr' (v := v) (fun G' => .inl ⟨hw, ?_⟩) (by rw [hl]; exact h (by rw [← hl]; exact inv.set hr' hin))
  rintro w' ⟨x, rfl⟩
  unfold Oper.quietAt
  rw [hex]
  exact ⟨rfl, Calls.extG_of (x := x) (con ⟨x.val, x.below⟩) hB⟩

/-- The last float. -/
theorem FS_float {f : Nat} {l l' : Array Bool} {a : Act} {G : List (Nat × Obj)} (i : Nat) (d : Tmp) (ob : Obj) (hr : Region.ready .any ops l = [i]) (hl : l.setIfInBounds i true = l') (hfi : fl i = some (d, ob)) (hin : i < n)
    (h : ∀ g, B ≤ g → (∀ g' o', (g', o') ∈ G → g ≠ g') → FS P ops B n w fl L f l' (a.put (some d) (.pointer (some ⟨g, 0, none⟩))) ((g, ob) :: G)) : FS P ops B n w fl L (f + 1) l a G := by
  intro inv
  refine ⟨fun h0 => (by rw [hr] at h0; cases h0), fun j hj => ?_⟩
  have hj' := hj
  rw [hr] at hj
  obtain rfl : j = i := by simpa using hj
  refine ⟨hin, ?_⟩
  simp only [hfi]
  intro g hg hfr
  rw [hl]
  exact h g hg hfr (by rw [← hl]; exact inv.set hj' hin)

/-- Two floats are left. -/
theorem FS_float2 {f : Nat} {l l1 l2 : Array Bool} {a : Act} {G : List (Nat × Obj)} (i j : Nat) (d e : Tmp) (ob oc : Obj) (hr : Region.ready .any ops l = [i, j]) (hl1 : l.setIfInBounds i true = l1) (hl2 : l.setIfInBounds j true = l2) (hfi : fl i = some (d, ob)) (hfj : fl j = some (e, oc)) (hin : i < n) (hjn : j < n)
    (h1 : ∀ g, B ≤ g → (∀ g' o', (g', o') ∈ G → g ≠ g') → FS P ops B n w fl L f l1 (a.put (some d) (.pointer (some ⟨g, 0, none⟩))) ((g, ob) :: G))
    (h2 : ∀ g, B ≤ g → (∀ g' o', (g', o') ∈ G → g ≠ g') → FS P ops B n w fl L f l2 (a.put (some e) (.pointer (some ⟨g, 0, none⟩))) ((g, oc) :: G)) : FS P ops B n w fl L (f + 1) l a G := by
  intro inv
  refine ⟨fun h0 => (by rw [hr] at h0; cases h0), fun k hk => ?_⟩
  have hk' := hk
  rw [hr] at hk
  rcases List.mem_cons.1 hk with rfl | hk
  · refine ⟨hin, ?_⟩
    simp only [hfi]
    intro g hg hfr
    rw [hl1]
    exact h1 g hg hfr (by rw [← hl1]; exact inv.set hk' hin)
  · obtain rfl : k = j := by simpa using hk
    refine ⟨hjn, ?_⟩
    simp only [hfj]
    intro g hg hfr
    rw [hl2]
    exact h2 g hg hfr (by rw [← hl2]; exact inv.set hk' hjn)

theorem FS_end {l : Array Bool} {a : Act} {G : List (Nat × Obj)} (hs : Region.seqB .any ops m n l = true) (h : ∀ w', Below B w w' → (∀ g o, (g, o) ∈ G → w'.heap[g]? = some o) → wpList P ops Q tl a w') : FS P ops B n w fl (TailL P ops B n m w Q tl) 0 l a G :=
  fun _ => ⟨hs, by rintro w' ⟨x, rfl⟩; exact h x.val x.below x.holds⟩

/-- The region's door. -/
theorem wp_region_float {id : Nat} {a : Act} {w : World} {lo : List Oper} (B n : Nat) (l : Array Bool) (fl : Nat → Option (Tmp × Obj)) (hm : P.follows .mixedOrders = true) (hB : B ≤ w.heap.size) (ok : FloatOk P lo.toArray n fl) (hl : Array.replicate lo.toArray.size false = l)
    (h : FloatOk P lo.toArray n fl → FS P lo.toArray B n w.drew fl (TailL P lo.toArray B n (lo.toArray.size - n) w.drew Q (lo.drop n)) n l a []) : (Code.region id lo.toArray true).wp P Q a w := by
  have hn := ok.size
  have hdl : (lo.drop n).length = lo.toArray.size - n := by simp
  have inv0 : HeadInv .any lo.toArray n l :=
    ⟨by rw [← hl]; simp, fun j oj _ hl' => (by rw [← hl, getD_replicate_false] at hl'; cases hl'), fun t _ ht => by rw [← hl]; exact getD_in (by simpa using ht) (getD_replicate_false _ _)⟩
  refine wp_region_any hm ?_
  have := anyF_wp (Q := Q) (g := lo.toArray.size - n) (w := w.drew) hB ok.floats (fun l' a' G hL w' hw' => by
    have := wpAny_of_seq (md := .any) (Q' := Q) (lo.drop n) n l' a' w' (fun j => by simp [List.getElem?_drop]) (by rw [hdl]; exact hL.1) (hL.2 w' hw')
    rwa [hdl] at this) n l a [] (h ok inv0) w.drew ⟨⟨w.drew, Below.refl _ _, fun g o hg => by cases hg⟩, rfl⟩
  rw [show n + (lo.toArray.size - n) = lo.toArray.size by omega] at this
  rw [hl]
  exact this
end
end Go.Proofs.Ytkdigdnacggknaa
/- Owned rows of cells read as lists; slices of integers. Generic: no program's numbers. -/
namespace Go.Proofs.Ytkdigdnacggknaa
open Go.RowKit

theorem flat_get {α : Type} (f : α → List Value) (sz : Nat) (hf : ∀ a, (f a).length = sz) : ∀ (l : List α) (k j : Nat) (a : α), l[k]? = some a → j < sz → (l.flatMap f)[k * sz + j]? = (f a)[j]?
  | [], k, j, a, h, _ => by simp at h
  | x :: l, 0, j, a, h, hj => by
    simp at h
    subst h
    simp only [List.flatMap_cons, Nat.zero_mul, Nat.zero_add]
    rw [List.getElem?_append_left (by rw [hf]; exact hj)]
  | x :: l, k + 1, j, a, h, hj => by
    have h' : l[k]? = some a := by simpa using h
    simp only [List.flatMap_cons]
    rw [List.getElem?_append_right (by rw [hf, Nat.succ_mul]; omega), hf, show (k + 1) * sz + j - sz = k * sz + j by rw [Nat.succ_mul]; omega]
    exact flat_get f sz hf l k j a h' hj

theorem add_off (g j : Nat) : (⟨g, 0, none⟩ : Addr).add j = ⟨g, j, none⟩ := by
  unfold Addr.add
  split
  · rename_i h; subst h; rfl
  · simp

/-- An owned row of structs reads as a list. -/
theorem own_lies {α : Type} {f : α → List Value} {sz : Nat} (hf : ∀ a, (f a).length = sz) {w : World} {base : Nat} {e : TypeId} {v : Value} {l : List α} (h : w.ownsRow base e sz v l.length (l.flatMap f)) :
    ∃ A c, v = .slice A l.length c ∧ Lies w w.heap.size sz A (l.map f) ∧ l.length ≤ maxLen := by
  rcases h.2 with ⟨rfl, h0⟩ | ⟨g, cap, cur, rfl, hg, hh, hnc, hm, hs, ht⟩
  · refine ⟨none, 0, by rw [h0], ?_, by rw [h0]; unfold maxLen; omega⟩
    have : l = [] := List.eq_nil_of_length_eq_zero h0
    subst this
    exact Lies.nil _ _ _ _
  · refine ⟨_, cap, rfl, fun _ => ⟨g, 0, rfl, ?_, fun k row hr j u hu => ?_⟩, Nat.le_trans hnc hm⟩
    · rcases Nat.lt_or_ge g w.heap.size with h' | h'
      · exact h'
      · rw [Array.getElem?_eq_none h'] at hh; cases hh
    · rw [List.getElem?_map] at hr
      cases hk : l[k]? with
      | none => rw [hk] at hr; cases hr
      | some a =>
        rw [hk] at hr
        have hra : f a = row := by simpa using hr
        subst hra
        have hj : j < sz := by
          have := (List.getElem?_eq_some_iff.1 hu).1
          rw [hf] at this; exact this
        have := h.cells (g := g) rfl (k * sz + j) u (by rw [flat_get f sz hf l k j a hk hj]; exact hu)
        rw [add_off] at this
        rw [Nat.zero_add]; exact this
theorem add_any (b off j : Nat) : (⟨b, off, none⟩ : Addr).add j = ⟨b, off + j, none⟩ := by
  unfold Addr.add
  split
  · rename_i h; subst h; simp
  · simp

/-- The cells of a slice of structs, one after the other. -/
theorem Lies.news {α : Type} {f : α → List Value} {sz : Nat} (hf : ∀ a, (f a).length = sz) (hz : 0 < sz) {w : World} {B : Nat} {ad : Addr} {l : List α} (h : Lies w B sz (some ad) (l.map f)) : ∀ j u, (l.flatMap f)[j]? = some u → w.cell? (ad.add j) = some u := by
  intro j u hu
  have hne : l.map f ≠ [] := by
    intro h0
    have : l = [] := by simpa using h0
    subst this
    simp at hu
  obtain ⟨b, off, e, _, hc⟩ := h hne
  injection e with e
  subst e
  have hlen : (l.flatMap f).length = l.length * sz := by
    clear hu hc hne h
    induction l with
    | nil => simp
    | cons x l ih => rw [List.flatMap_cons, List.length_append, hf, ih, List.length_cons, Nat.succ_mul]; omega
  have hj : j < l.length * sz := by rw [← hlen]; exact (List.getElem?_eq_some_iff.1 hu).1
  have hk : j / sz < l.length := Nat.div_lt_of_lt_mul (by rw [Nat.mul_comm]; exact hj)
  have hr : j % sz < sz := Nat.mod_lt _ hz
  obtain ⟨a, ha⟩ := get_of_lt hk
  have hg := flat_get f sz hf l (j / sz) (j % sz) a ha hr
  have e : j / sz * sz + j % sz = j := by rw [Nat.mul_comm]; exact Nat.div_add_mod j sz
  rw [e] at hg
  have := hc (j / sz) (f a) (by simp [ha]) (j % sz) u (by rw [← hg]; exact hu)
  rw [Nat.add_assoc, e] at this
  rw [add_any]
  exact this
theorem flat_len {α : Type} {f : α → List Value} {sz : Nat} (hf : ∀ a, (f a).length = sz) : ∀ l : List α, (l.flatMap f).length = l.length * sz
  | [] => by simp
  | x :: l => by rw [List.flatMap_cons, List.length_append, hf, flat_len hf l, List.length_cons, Nat.succ_mul]; omega

theorem Blk.new2 {w : World} {g : Nat} (t : TypeId) (cs : List Value) (h : g = w.heap.size) : Blk (w.alloc (.cells cs.toArray t)) g t cs := by rw [h]; exact Blk.new w t cs
def irow (x : Int) : List Value := [.int .i64 x]
theorem irow_len (x : Int) : (irow x).length = 1 := rfl
/-- The slice with address A holds the integers l. -/
def LiesI (w : World) (B : Nat) (A : Option Addr) (l : List Int) : Prop := Lies w B 1 A (l.map irow)
theorem LiesI.below {w w' : World} {B : Nat} {A : Option Addr} {l : List Int} (h : LiesI w B A l) (hb : Below B w w') : LiesI w' B A l := Lies.below h hb
theorem LiesI.below_le {w w' : World} {B B' : Nat} {A : Option Addr} {l : List Int} (h : LiesI w B A l) (hb : Below B' w w') (hB : B ≤ B') : LiesI w' B A l := Lies.below_le h hb hB
theorem LiesI.more {w : World} {B B' : Nat} {A : Option Addr} {l : List Int} (h : LiesI w B A l) (hB : B ≤ B') : LiesI w B' A l := Lies.more h hB
theorem LiesI.nil {w : World} {B : Nat} {A : Option Addr} : LiesI w B A [] := Lies.nil _ _ _ _
theorem LiesI.at_ {w : World} {B : Nat} {A : Option Addr} {l : List Int} (h : LiesI w B A l) {k : Nat} {x : Int} (ha : l[k]? = some x) :
    ∃ b off, A = some ⟨b, off, none⟩ ∧ b < B ∧ ∀ k x, l[k]? = some x → w.cell? ⟨b, off + k, none⟩ = some (.int .i64 x) := by
  have hne : l.map irow ≠ [] := by
    intro h0
    have : l = [] := by simpa using h0
    subst this
    simp at ha
  obtain ⟨b, off, e, hb, hc⟩ := h hne
  refine ⟨b, off, e, hb, fun k x ha => ?_⟩
  have hr : (l.map irow)[k]? = some (irow x) := by simp [ha]
  have := hc k _ hr 0 _ rfl
  simpa using this
def flatI (l : List Int) : List Value := l.flatMap irow
theorem flatI_one (l : List Int) : ∀ u ∈ flatI l, u.oneCell' = true := fun u hu => by
  obtain ⟨a, _, h⟩ := List.mem_flatMap.1 hu
  simp only [irow, List.mem_cons, List.not_mem_nil, or_false] at h
  subst h; rfl
theorem flatI_len (l : List Int) : (flatI l).length = l.length := by
  have := flat_len (f := irow) irow_len l
  unfold flatI; omega
theorem own_I {w : World} {base n c : Nat} {t : TypeId} {A : Option Addr} {l : List Int} (h : w.ownsRow base t 1 (.slice A n c) l.length (flatI l)) : LiesI w w.heap.size A l := by
  obtain ⟨A', c', e, h1, _⟩ := own_lies (f := irow) irow_len h
  injection e with e _ _
  subst e
  exact h1
theorem own_liesI {w : World} {base : Nat} {t : TypeId} {v : Value} {l : List Int} (h : w.ownsRow base t 1 v l.length (flatI l)) : ∃ A c, v = .slice A l.length c ∧ LiesI w w.heap.size A l := by
  obtain ⟨A, c, e, h1, _⟩ := own_lies (f := irow) irow_len h
  exact ⟨A, c, e, h1⟩
end Go.Proofs.Ytkdigdnacggknaa
/- As the text Mix: with operations ('rough') that may change what lies below B; each of them waits for all that were taken first. Generic. -/
namespace Go.Proofs.Ytkdigdnacggknaa
open Go.RowKit

section
variable {P : Program} {ops : Array Oper} {Q : Exit → Act → World → Prop}

/-- What an operation leaves: all below B; a rough one nothing. -/
def lowR (R : List Nat) (B i : Nat) : Nat := if R.contains i = true then 0 else B
/-- Whatever order is picked from here on. -/
def anyR (P : Program) (ops : Array Oper) (B : Nat) (R : List Nat) (Q : Exit → Act → World → Prop) : Nat → Array Bool → Act → World → Prop
  | 0, listed, a, w => Region.ready .any ops listed = [] ∧ Q .normal a w
  | f + 1, listed, a, w => (Region.ready .any ops listed = [] → Q .normal a w) ∧ ∀ i ∈ Region.ready .any ops listed, wpOp P ops Q i (fun a' w' => Below (lowR R B i) w w' ∧ anyR P ops B R Q f (listed.setIfInBounds i true) a' w') a w

/-- Each rough operation waits for operation i. -/
def waitsR (ops : Array Oper) (R : List Nat) (i : Nat) : Bool :=
  R.all fun j => match ops[j]? with
    | some o => o.after.any fun e => Region.binds .any e && e.on == i
    | none => true
theorem waitsR_spec {i j : Nat} {oj : Oper} {R : List Nat} (h : waitsR ops R i = true) (hj : ops[j]? = some oj) (hno : ∀ e ∈ oj.after, Region.binds .any e = true → e.on ≠ i) : R.contains j = false := by
  rw [Bool.eq_false_iff]
  intro hc
  have hm : j ∈ R := by simpa using hc
  have h1 := List.all_eq_true.1 h j hm
  rw [hj] at h1
  simp only [Array.any_eq_true] at h1
  obtain ⟨k, hk, he⟩ := h1
  simp only [Bool.and_eq_true, beq_iff_eq] at he
  exact hno _ (Array.getElem_mem hk) he.1 he.2

theorem anyR_any {B : Nat} {R : List Nat} : ∀ (f : Nat) (listed : Array Bool) (a : Act) (w : World), anyR P ops B R Q f listed a w → wpAny P .any ops Q f listed a w
  | 0, _, _, _, h => h
  | f + 1, _, _, _, h => ⟨h.1, fun i hi => wpOp_mono (fun a' w' h' => anyR_any f _ a' w' h'.2) (h.2 i hi)⟩

theorem anyR_first {B B0 i : Nat} {R : List Nat} {oi : Oper} {v : Value} (hi : ops[i]? = some oi) (hR : ∀ j oj, ops[j]? = some oj → (∀ e ∈ oj.after, Region.binds .any e = true → e.on ≠ i) → B0 ≤ lowR R B j) (hsel : ∀ (j : Nat) (o : Oper) cs b, ops[j]? = some o → o.op ≠ .select cs b)
    (hQ : ∀ c a w, Q (.panic c) (a.put oi.dst v) w → Q (.panic c) a w) :
    ∀ (f : Nat) (listed : Array Bool) (a : Act) (w : World),
      (∀ j oj, ops[j]? = some oj → j ≠ i → listed.getD j true = false → (∀ e ∈ oj.after, Region.binds .any e = true → e.on ≠ i) → oi.apart ops oj = true) →
      i ∈ Region.ready .any ops listed → YieldsB P ops B0 oi v a w →
      anyR P ops B R Q f (listed.setIfInBounds i true) (a.put oi.dst v) w → anyR P ops B R Q (f + 1) listed a w := by
  intro f
  induction f with
  | zero =>
    intro listed a w _ hr hy H
    refine ⟨fun h => (by rw [h] at hr; cases hr), fun j hj => ?_⟩
    by_cases hji : j = i
    · subst hji; exact hy.wpOp hi ⟨Below.refl _ _, H⟩
    · have := ready_mono hj hji
      rw [H.1] at this
      cases this
  | succ f ih =>
    intro listed a w hfree hr hy H
    refine ⟨fun h => (by rw [h] at hr; cases hr), fun j hj => ?_⟩
    by_cases hji : j = i
    · subst hji; exact hy.wpOp hi ⟨Below.refl _ _, H⟩
    · have h1 := H.2 j (ready_mono hj hji)
      obtain ⟨hjun, oj, hoj, hall⟩ := mem_ready.1 hj
      have hnot : ∀ e ∈ oj.after, Region.binds .any e = true → e.on ≠ i := fun e he hb heq => by
        have h1 := hall e he hb
        rw [heq, getD_both (mem_ready.1 hr).1] at h1
        cases h1
      have h1' := wpOp_mono (K' := fun a' w' => Below B0 w w' ∧ (Below (lowR R B j) w w' ∧ anyR P ops B R Q f (((listed.setIfInBounds i true)).setIfInBounds j true) a' w')) (fun a' w' h => ⟨h.1.mono (hR j oj hoj hnot), h⟩) h1
      have h2 := anyB_put hoj (hfree j oj hoj hji hjun hnot) (fun cs b => hsel i oi cs b hi) (fun cs b => hsel j oj cs b hoj) hQ hy h1'
      have hfree' : ∀ k ok, ops[k]? = some ok → k ≠ i → (listed.setIfInBounds j true).getD k true = false →
          (∀ e ∈ ok.after, Region.binds .any e = true → e.on ≠ i) → oi.apart ops ok = true := fun k ok hk hki hun hno => by
        refine hfree k ok hk hki ?_ hno
        by_cases hjk : j = k
        · subst hjk; exact hjun
        · rw [getD_set_ne true hjk] at hun; exact hun
      refine wpOp_mono (fun a' w' h3 => ⟨h3.2.2.1, ih (listed.setIfInBounds j true) a' w' hfree' (ready_mono hr (Ne.symm hji)) h3.2.1 ?_⟩) h2
      rw [Array.setIfInBounds_comm _ _ hji]
      exact h3.2.2.2

theorem lowR_waits {B i : Nat} {R : List Nat} (h : waitsR ops R i = true) : ∀ j oj, ops[j]? = some oj → (∀ e ∈ oj.after, Region.binds .any e = true → e.on ≠ i) → B ≤ lowR R B j := fun j oj hj hno => by
  unfold lowR
  rw [waitsR_spec h hj hno]
  simp

/-- A plain operation that is quiet below B is taken first. -/
theorem anyR_take {B f : Nat} {R : List Nat} {l l' : Array Bool} {a : Act} {w : World} (i : Nat) (o : Oper) (hi : ops[i]? = some o) (hp : plainOp o.op = true) (hs : Region.noSelect ops = true) (hR : waitsR ops R i = true) (hf : Region.free .any ops l i = true)
    (hr : (Region.ready .any ops l).contains i = true) (hl : l.setIfInBounds i true = l') (hw : Region.wanted o (yielded ops a.tmps) = true)
    (h : ∀ K : Act → Prop, (∀ a', anyR P ops B R (NoPanic Q) f l' a' w → K a') → o.quiet P a (fun w' => ∃ x : ExtW B w, w' = x.val) K) : anyR P ops B R (NoPanic Q) (f + 1) l a w := by
  obtain ⟨v, h1, h2⟩ := h _ (fun _ h => h)
  refine anyR_first (B0 := B) hi (lowR_waits hR) (Region.noSelect_spec hs) (v := v) (fun _ _ _ h => (h : False).elim) f l a w (Region.free_spec hi hf) (by simpa using hr) (.inl ⟨hw, fun w' hb => ?_⟩) (by rw [hl]; exact h2)
  have h3 := h1 w' ⟨⟨w', hb⟩, rfl⟩
  unfold Oper.quietAt at h3
  rcases run_plain (P := P) hp a.eval w' with ⟨u, w2, e⟩ | ⟨x, w2, e⟩
  · rw [e] at h3 ⊢
    obtain ⟨rfl, rfl⟩ := h3
    rfl
  · rw [e] at h3
    exact h3.elim

/-- A plain operation that looks at no memory is taken first. -/
theorem anyR_take0 {B f : Nat} {R : List Nat} {l l' : Array Bool} {a : Act} {w : World} (i : Nat) (o : Oper) (hi : ops[i]? = some o) (hp : plainOp o.op = true) (hs : Region.noSelect ops = true) (hf : Region.free .any ops l i = true)
    (hr : (Region.ready .any ops l).contains i = true) (hl : l.setIfInBounds i true = l') (hw : Region.wanted o (yielded ops a.tmps) = true)
    (h : ∀ K : Act → Prop, (∀ a', anyR P ops B R (NoPanic Q) f l' a' w → K a') → o.quiet P a (fun w' => ∃ x : ExtW 0 w, w' = x.val) K) : anyR P ops B R (NoPanic Q) (f + 1) l a w := by
  obtain ⟨v, h1, h2⟩ := h _ (fun _ h => h)
  refine anyR_first (B0 := 0) hi (fun _ _ _ _ => Nat.zero_le _) (Region.noSelect_spec hs) (v := v) (fun _ _ _ h => (h : False).elim) f l a w (Region.free_spec hi hf) (by simpa using hr) (.inl ⟨hw, fun w' hb => ?_⟩) (by rw [hl]; exact h2)
  have h3 := h1 w' ⟨⟨w', hb⟩, rfl⟩
  unfold Oper.quietAt at h3
  rcases run_plain (P := P) hp a.eval w' with ⟨u, w2, e⟩ | ⟨x, w2, e⟩
  · rw [e] at h3 ⊢
    obtain ⟨rfl, rfl⟩ := h3
    rfl
  · rw [e] at h3
    exact h3.elim

/-- One whose guard is false is passed over first. -/
theorem anyR_pass {B f : Nat} {R : List Nat} {l l' : Array Bool} {a : Act} {w : World} (i : Nat) (o : Oper) (hi : ops[i]? = some o) (hs : Region.noSelect ops = true) (hf : Region.free .any ops l i = true)
    (hr : (Region.ready .any ops l).contains i = true) (hl : l.setIfInBounds i true = l') (hw : Region.wanted o (yielded ops a.tmps) = false)
    (h : anyR P ops B R (NoPanic Q) f l' (a.put o.dst undef) w) : anyR P ops B R (NoPanic Q) (f + 1) l a w :=
  anyR_first (B0 := 0) hi (fun _ _ _ _ => Nat.zero_le _) (Region.noSelect_spec hs) (v := undef) (fun _ _ _ h => (h : False).elim) f l a w (Region.free_spec hi hf) (by simpa using hr) (.inr ⟨hw, rfl⟩) (by rw [hl]; exact h)

/-- What stands behind one operation: the world is as it was below B, and the rest. -/
def OneR (P : Program) (ops : Array Oper) (B : Nat) (R : List Nat) (f i : Nat) (Q : Exit → Act → World → Prop) (l : Array Bool) (w : World) : Exit → Act → World → Prop
  | .normal, a', w' => Below (lowR R B i) w w' ∧ anyR P ops B R Q f l a' w'
  | e, a', w' => Q e a' w'

theorem wpOp_oneR {B f i : Nat} {R : List Nat} {o : Oper} {l l' : Array Bool} {a : Act} {w : World} (hi : ops[i]? = some o) (hl : l.setIfInBounds i true = l')
    (h : wpList P ops (OneR P ops B R f i (NoPanic Q) l' w) [o] a w) : wpOp P ops (NoPanic Q) i (fun a' w' => Below (lowR R B i) w w' ∧ anyR P ops B R (NoPanic Q) f (l.setIfInBounds i true) a' w') a w := by
  rw [hl]
  unfold wpOp
  simp only [hi]
  simp only [wpList] at h
  split
  · rename_i hw
    simp only [hw, if_true] at h
    rcases h with h | ⟨h1, a0, w0, h2⟩
    · refine .inl ?_
      unfold Oper.wp at *
      generalize (execOp a.eval o).run P w = r at *
      cases r with
      | ok n w' =>
        cases n <;> simp only [Oper.upon] at h ⊢
        case value u => exact h
        case skip => exact h
        case defer d => exact h
        case enter f args =>
          refine Calls.mono h fun e w'' he => ?_
          cases e with
          | returned u => exact he
          | panicked c => exact he
          | outgrown => obtain ⟨a0, w0, h2⟩ := he; exact ⟨a0, w0, h2⟩
        case row row args => exact h
      | halt x w' =>
        cases x <;> simp only [Oper.upon] at h ⊢
        case panic u => exact h
    · exact .inr ⟨h1, a0, w0, h2⟩
  · rename_i hw
    simp only [hw] at h
    exact h

/-- One operation alone is ready. -/
theorem anyR_one {B f : Nat} {R : List Nat} {l l' : Array Bool} {a : Act} {w : World} (i : Nat) (o : Oper) (hi : ops[i]? = some o) (hr : Region.ready .any ops l = [i]) (hl : l.setIfInBounds i true = l')
    (h : wpList P ops (OneR P ops B R f i (NoPanic Q) l' w) [o] a w) : anyR P ops B R (NoPanic Q) (f + 1) l a w :=
  ⟨fun h0 => (by rw [hr] at h0; cases h0), fun j hj => by
    rw [hr] at hj
    obtain rfl : j = i := by simpa using hj
    exact wpOp_oneR hi hl h⟩

/-- Two operations are ready. -/
theorem anyR_two {B f : Nat} {R : List Nat} {l l1 l2 : Array Bool} {a : Act} {w : World} (i j : Nat) (oi oj : Oper) (hi : ops[i]? = some oi) (hj : ops[j]? = some oj) (hr : Region.ready .any ops l = [i, j]) (hl1 : l.setIfInBounds i true = l1) (hl2 : l.setIfInBounds j true = l2)
    (h1 : wpList P ops (OneR P ops B R f i (NoPanic Q) l1 w) [oi] a w) (h2 : wpList P ops (OneR P ops B R f j (NoPanic Q) l2 w) [oj] a w) : anyR P ops B R (NoPanic Q) (f + 1) l a w :=
  ⟨fun h0 => (by rw [hr] at h0; cases h0), fun k hk => by
    rw [hr] at hk
    rcases List.mem_cons.1 hk with rfl | hk
    · exact wpOp_oneR hi hl1 h1
    · obtain rfl : k = j := by simpa using hk
      exact wpOp_oneR hj hl2 h2⟩

/-- Three operations are ready. -/
theorem anyR_three {B f : Nat} {R : List Nat} {l l1 l2 l3 : Array Bool} {a : Act} {w : World} (i j m : Nat) (oi oj om : Oper) (hi : ops[i]? = some oi) (hj : ops[j]? = some oj) (hm : ops[m]? = some om) (hr : Region.ready .any ops l = [i, j, m])
    (hl1 : l.setIfInBounds i true = l1) (hl2 : l.setIfInBounds j true = l2) (hl3 : l.setIfInBounds m true = l3)
    (h1 : wpList P ops (OneR P ops B R f i (NoPanic Q) l1 w) [oi] a w) (h2 : wpList P ops (OneR P ops B R f j (NoPanic Q) l2 w) [oj] a w) (h3 : wpList P ops (OneR P ops B R f m (NoPanic Q) l3 w) [om] a w) : anyR P ops B R (NoPanic Q) (f + 1) l a w :=
  ⟨fun h0 => (by rw [hr] at h0; cases h0), fun k hk => by
    rw [hr] at hk
    rcases List.mem_cons.1 hk with rfl | hk
    · exact wpOp_oneR hi hl1 h1
    rcases List.mem_cons.1 hk with rfl | hk
    · exact wpOp_oneR hj hl2 h2
    · obtain rfl : k = m := by simpa using hk
      exact wpOp_oneR hm hl3 h3⟩

theorem OneR_mk {B f i : Nat} {R : List Nat} {l : Array Bool} {a' : Act} {w w' : World} (hb : Below B w w') (h : anyR P ops B R (NoPanic Q) f l a' w') : OneR P ops B R f i (NoPanic Q) l w .normal a' w' := ⟨hb.mono (by unfold lowR; split <;> omega), h⟩
theorem OneR_rough {B f i : Nat} {R : List Nat} {l : Array Bool} {a' : Act} {w w' : World} (hR : R.contains i = true) (hb : Below 0 w w') (h : anyR P ops B R (NoPanic Q) f l a' w') : OneR P ops B R f i (NoPanic Q) l w .normal a' w' := ⟨hb.mono (by unfold lowR; rw [if_pos hR]; exact Nat.le_refl _), h⟩

theorem anyR_end {B : Nat} {R : List Nat} {l : Array Bool} {a : Act} {w : World} (hr : Region.ready .any ops l = []) (h : Q .normal a w) : anyR P ops B R (NoPanic Q) 0 l a w := ⟨hr, h⟩

/-- The region's door. -/
theorem wp_region_rough {id : Nat} {a : Act} {w : World} {lo : List Oper} (B n : Nat) (R : List Nat) (l : Array Bool) (hm : P.follows .mixedOrders = true) (hn : lo.toArray.size = n) (hl : Array.replicate n false = l)
    (h : anyR P lo.toArray B R (NoPanic Q) n l a w.drew) : (Code.region id lo.toArray true).wp P Q a w :=
  wp_region_noPanic (wp_region_any hm (by rw [hn, hl]; exact anyR_any _ _ _ _ h))

end
end Go.Proofs.Ytkdigdnacggknaa
