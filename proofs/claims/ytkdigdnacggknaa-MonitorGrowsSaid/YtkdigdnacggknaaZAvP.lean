import Derived.Deep.LoopGhost
import Derived.Test.YtkdigdnacggknaaZAvB
/- Abstract states: statements; loops; functions. Generic. -/
namespace Go.Proofs.Ytkdigdnacggknaa
open Go.RowKit
namespace Av

section
variable {P : Program} {F : Fr}
theorem getD_some {l : Array Value} {t : Nat} {b : Bool} (h : l.getD t undef = .bool b) : l[t]? = some (.bool b) := by
  rcases Nat.lt_or_ge t l.size with h' | h'
  · simp [h'] at h ⊢; exact h
  · simp [Array.getElem?_eq_none h'] at h
    cases h
theorem guard_ok {σ : St} {γ : Gh} {a : Act} {w : World} (h : Rel F σ γ a w) {ops : Array Oper} {g : Nat → Option AV} {o : Oper} {b : Bool} (hg : ∀ j want t y, o.guard = some (j, want) → (ops[j]?).bind (·.dst) = some t → g t = some y → look σ.slot t = some y)
    (hb : guardB ops g o = some b) : Region.wanted o (yielded ops a.tmps) = b := by
  unfold guardB at hb
  unfold Region.wanted
  cases hgd : o.guard with
  | none => rw [hgd] at hb; cases hb; rfl
  | some jw =>
    obtain ⟨j, want⟩ := jw
    rw [hgd] at hb
    dsimp only at hb ⊢
    cases ht : (ops[j]?).bind (·.dst) with
    | none => rw [ht] at hb; cases hb
    | some t =>
      rw [ht] at hb
      dsimp only at hb
      unfold yielded
      rw [ht]
      simp only [Option.bind_some]
      split at hb
      · rename_i c hc
        cases hb
        have := (h.slots t _ (hg j want t _ hgd ht hc)).1
        rw [getD_some this]
        cases c <;> cases want <;> rfl
      · rename_i vs hc
        cases hb
        have h1 : a.tmps.getD t undef = .tuple vs := (h.slots t _ (hg j want t _ hgd ht hc)).1
        rcases Nat.lt_or_ge t a.tmps.size with h' | h'
        · have : a.tmps[t]? = some (.tuple vs) := by simp [h'] at h1 ⊢; exact h1
          rw [this]; rfl
        · rw [Array.getElem?_eq_none h']; rfl
      · cases hb

theorem sop_ok {st : List Nat} {σ : St} {γ : Gh} {a : Act} {w : World} {o : Oper} {K : St → Prop} (h : Rel F σ γ a w) (hs : sop P F.n st σ o K) (Q : Exit → Act → World → Prop) : o.wp P a w (fun a' w' => ∃ σ' γ', K σ' ∧ Rel F σ' γ' a' w') Q := by
  unfold sop at hs
  split at hs
  · rename_i T x v ho hd
    obtain ⟨k, off, u, cs, xs, h1, h2, h3, h4, h5, h6, hK⟩ := hs
    exact store_ok h ho hd h1 h2 h3 h4 h5 h6 hK Q
  · rename_i args ats d ho hd
    exact append_ok h ho hd hs Q
  · rename_i hd _
    split at hs
    · exact hs F γ a w rfl h Q
    obtain ⟨hdn, hx⟩ := hs
    obtain ⟨r, hK, h1, h2, h3⟩ := hopx_full (F := F) hx hd hdn
    refine Oper.wp_mono (fun a' w' hst => ?_) (h3 σ γ a w h (fun t y _ hy => hy) (fun k cs hk => hk) (fun hk => hk) Q)
    obtain ⟨γ', hrel⟩ := stl_ok (st := st) h hdn h1 h2 hst
    exact ⟨_, γ', hK, hrel⟩
  · exact hs F γ a w rfl h Q

theorem sops_ok {st : List Nat} {ops : Array Oper} {K : St → Prop} {Q : Exit → Act → World → Prop} (hQ : ∀ σ γ a w, K σ → Rel F σ γ a w → Q .normal a w) : ∀ (l : List Oper) (σ : St) (γ : Gh) (a : Act) (w : World), Rel F σ γ a w → sops P F.n st ops l σ K → wpList P ops Q l a w
  | [], σ, γ, a, w, h, hs => hQ σ γ a w hs h
  | o :: l, σ, γ, a, w, h, hs => by
    unfold sops at hs
    unfold wpList
    split at hs
    · rename_i hg
      rw [guard_ok h (fun j want t y _ _ hy => hy) hg, if_pos rfl]
      refine .inl (Oper.wp_mono (fun a' w' hst => ?_) (sop_ok h hs Q))
      obtain ⟨σ', γ', h1, h2⟩ := hst
      exact sops_ok hQ l σ' γ' a' w' h2 h1
    · rename_i hg
      obtain ⟨d, hd, hdn, hs⟩ := hs
      rw [guard_ok h (fun j want t y _ _ hy => hy) hg, if_neg (by simp), hd]
      exact sops_ok hQ l _ γ _ w (h.put hdn (x := .v undef) (u := undef) rfl (fun k hk => by cases hk)) hs
    · cases hs

inductive AX where
  | normal
  | exit (id : Nat)
  | ret
def AX.exit_ : AX → Exit
  | .normal => .normal
  | .exit id => .exit id
  | .ret => .ret
/-- From every machine state that follows σ the code comes to one that follows a state in Q. -/
def AWp (P : Program) (F : Fr) (c : Code) (Q : AX → St → Prop) (σ : St) : Prop :=
  ∀ γ a w, Rel F σ γ a w → c.wp P (fun e a' w' => ∃ x σ' γ', e = x.exit_ ∧ Q x σ' ∧ Rel F σ' γ' a' w') a w
def athen (next : St → Prop) (Q : AX → St → Prop) : AX → St → Prop
  | .normal, σ => next σ
  | x, σ => Q x σ
def ablock (id : Nat) (Q : AX → St → Prop) : AX → St → Prop
  | .exit id', σ => if id' = id then Q .normal σ else Q (.exit id') σ
  | x, σ => Q x σ
theorem awp_region {id : Nat} {l : List Oper} {Q : AX → St → Prop} {σ : St} (st : List Nat) (h : sops P F.n st l.toArray l σ (Q .normal)) : AWp P F (Code.region id l.toArray false) Q σ := fun γ a w hr =>
  wp_region_lit (sops_ok (fun σ' γ' a' w' hq hr' => ⟨.normal, σ', γ', rfl, hq, hr'⟩) l σ γ a w hr h)
theorem awp_seq {x y : Code} {Q : AX → St → Prop} {σ : St} (h : AWp P F x (athen (AWp P F y Q) Q) σ) : AWp P F (x.seq y) Q σ := fun γ a w hr =>
  wp_seq (wp_mono (h γ a w hr) fun e _ _ ⟨z, σ', γ', he, hq, hr'⟩ => by
    subst he
    cases z with
    | normal => exact hq γ' _ _ hr'
    | exit id => exact ⟨.exit id, σ', γ', rfl, hq, hr'⟩
    | ret => exact ⟨.ret, σ', γ', rfl, hq, hr'⟩)
theorem awp_skip {Q : AX → St → Prop} {σ : St} (h : Q .normal σ) : AWp P F .skip Q σ := fun γ _ _ hr => wp_skip ⟨.normal, σ, γ, rfl, h, hr⟩
theorem awp_ret {Q : AX → St → Prop} {σ : St} (h : Q .ret σ) : AWp P F .ret Q σ := fun γ _ _ hr => wp_ret ⟨.ret, σ, γ, rfl, h, hr⟩
theorem awp_exit {id : Nat} {Q : AX → St → Prop} {σ : St} (h : Q (.exit id) σ) : AWp P F (.exit id) Q σ := fun γ _ _ hr => wp_exit ⟨.exit id, σ, γ, rfl, h, hr⟩
theorem awp_block {id : Nat} {c : Code} {Q : AX → St → Prop} {σ : St} (h : AWp P F c (ablock id Q) σ) : AWp P F (.block id c) Q σ := fun γ a w hr =>
  wp_block (wp_mono (h γ a w hr) fun e _ _ ⟨z, σ', γ', he, hq, hr'⟩ => by
    subst he
    cases z with
    | normal => exact ⟨.normal, σ', γ', rfl, hq, hr'⟩
    | exit id' =>
      simp only [AX.exit_, Exit.inBlock]
      simp only [ablock] at hq
      by_cases hid : id' = id
      · rw [if_pos hid] at hq ⊢
        exact ⟨.normal, σ', γ', rfl, hq, hr'⟩
      · rw [if_neg hid] at hq ⊢
        exact ⟨.exit id', σ', γ', rfl, hq, hr'⟩
    | ret => exact ⟨.ret, σ', γ', rfl, hq, hr'⟩)
theorem awp_cond {c : Operand} {x y : Code} {Q : AX → St → Prop} {σ : St} {t : Bool} (hc : evo (look σ.slot) c = some (.v (.bool t))) (h1 : t = true → AWp P F x Q σ) (h2 : t = false → AWp P F y Q σ) : AWp P F (.cond c x y) Q σ := fun γ a w hr => by
  have he : a.eval c = .bool t := (evo_ok hr (fun u y _ hy => hy) hc).1
  exact wp_cond_split he (fun ht => h1 ht γ a w hr) (fun ht => h2 ht γ a w hr)
theorem awp_mono {c : Code} {Q Q' : AX → St → Prop} {σ : St} (h : AWp P F c Q σ) (hq : ∀ x σ, Q x σ → Q' x σ) : AWp P F c Q' σ := fun γ a w hr =>
  wp_mono (h γ a w hr) fun _ _ _ ⟨z, σ', γ', he, h1, hr'⟩ => ⟨z, σ', γ', he, hq _ _ h1, hr'⟩
theorem awp_sub {c : Code} {Q : AX → St → Prop} {σ σ' : St} (hs : σ.Sub σ') (h : AWp P F c Q σ') : AWp P F c Q σ := fun γ a w hr => h γ a w (hr.sub hs)
/-- A loop: I i: the state at its head, less and less of m left. -/
theorem awp_loop {ι : Type} {c : Code} {Q : AX → St → Prop} {σ : St} (I : ι → St) (m : ι → Nat) (i0 : ι) (h0 : σ.Sub (I i0)) (round : ∀ i, AWp P F c (athen (fun σ' => ∃ j, m j < m i ∧ σ'.Sub (I j)) Q) (I i)) : AWp P F (.loop c) Q σ := fun γ a w hr => by
  refine wp_loop_ghost (fun n a w => ∃ i γ, m i = n ∧ Rel F (I i) γ a w) (m i0) ⟨i0, γ, rfl, hr.sub h0⟩ ?_
  rintro n a w ⟨i, γ, rfl, hr⟩
  refine wp_mono (round i γ a w hr) ?_
  rintro e a' w' ⟨z, σ', γ', rfl, hq, hr'⟩
  cases z with
  | normal =>
    obtain ⟨j, hj, hI'⟩ := hq
    exact ⟨m j, hj, j, γ', rfl, hr'.sub hI'⟩
  | exit id => exact ⟨.exit id, σ', γ', rfl, hq, hr'⟩
  | ret => exact ⟨.ret, σ', γ', rfl, hq, hr'⟩
theorem put_same {a : Act} {d : Nat} (hd : d < a.tmps.size) : a.put (some d) (a.tmps.getD d undef) = a := by
  obtain ⟨tmps, df⟩ := a
  simp only [Act.put]
  congr 1
  simp only at hd
  apply Array.ext
  · simp
  · intro i h1 h2
    rw [Array.getElem_setIfInBounds]
    split
    · rename_i he
      subst he
      simp [hd]
    · rfl
/-- A slice that is nil is owned. -/
theorem awp_nil {c : Code} {Q : AX → St → Prop} {σ : St} (d sz : Nat) (e : TypeId) (hd : d < F.n) (hs : look σ.slot d = some (.v (.slice none 0 0))) (h : AWp P F c Q (σ.putOwn d sz [] e)) : AWp P F c Q σ := fun γ a w hr => by
  have hv : a.tmps.getD d undef = .slice none 0 0 := (hr.slots d _ hs).1
  have := hr.row (d := d) hd (s := none) (sz := sz) (rows := []) (e := e) (v := .slice none 0 0) (q := none) rfl rfl rfl (Nat.le_refl _) (fun _ _ _ => rfl) (fun t ht => by cases ht) (fun g hg => by cases hg) ⟨rfl, rfl⟩
    (.sl sz [] none 0 (fun _ _ => undef) (fun k row hk => by simp at hk) (.inl rfl) (fun k row _ _ hk => by simp at hk) (Nat.le_refl _))
  rw [← hv, put_same (by rw [hr.size]; exact hd)] at this
  exact h _ a w this

/-- What a function's results are. -/
def retOne (P : Program) (σ : St) (K : CV → Prop) : ResultVar → Prop
  | .tmp t => ∃ x, look σ.slot t = some x ∧ (match x with
    | .v u => u.oneCell' = true ∧ K (.c (.v u))
    | .sl sz rows => K (.c (.sl sz rows))
    | .agg xs => K (.g xs)
    | _ => False)
  | .cell t T => ∃ k off cs d n, look σ.slot t = some (.ref k off) ∧ look σ.box k = some cs ∧ P.underlying T = some d ∧ (P.info? T).map (·.size) = some n ∧
      if d.isRow = true then n ≤ (cs.drop off).length ∧ K (.g ((cs.drop off).take n)) else ∃ p, (cs.drop off)[0]? = some p ∧ K (.c p)
def retAll (P : Program) (σ : St) : List ResultVar → (List CV → Prop) → Prop
  | [], K => K []
  | r :: l, K => retOne P σ (fun c => retAll P σ l fun cs => K (c :: cs)) r
def RetOK (P : Program) (rs : Array ResultVar) (σ : St) (res : FRes) : Prop :=
  (∃ t sz rows e, rs = #[.tmp t] ∧ look σ.slot t = some (.sl sz rows) ∧ lookL σ.own (.s t) = some (e, sz) ∧ res = ⟨.sl sz rows, some e⟩) ∨
  (retAll P σ rs.toList fun cs => res = ⟨match cs with | [c] => c.av | cs => .tup cs, none⟩)
def resOne (tmps : Array Value) : ResultVar → Sem Value
  | .tmp t => pure (tmps.getD t undef)
  | .cell a t => do loadVar t (← asAddr (tmps.getD a undef))
theorem results_eq (fn : Func) (tmps : Array Value) : results fn tmps = (do
    let vs ← fn.results.mapM (resOne tmps)
    pure (if h : vs.size = 1 then vs[0] else .tuple vs)) := by
  unfold results
  congr 1
theorem retOne_ok {σ : St} {γ : Gh} {a : Act} {w : World} (h : Rel F σ γ a w) {K : CV → Prop} {r : ResultVar} (hr : retOne P σ K r) : ∃ c u, K c ∧ RepC (rdr F.R0 F.w0.heap.size σ γ w) c u ∧
    (resOne a.tmps r).run P w = .ok u w := by
  cases r with
  | tmp t =>
    obtain ⟨x, h1, h2⟩ := hr
    have h3 := (h.slots t x h1).1
    split at h2
    · exact ⟨_, _, h2.2, .c (.v _ h2.1), by rw [resOne, show a.tmps.getD t undef = _ from h3]; rfl⟩
    · exact ⟨_, _, h2, .c h3, rfl⟩
    · obtain ⟨us, h4, h5⟩ := h3
      exact ⟨_, _, h2, .g h5, by rw [resOne, h4]; rfl⟩
    · cases h2
  | cell t T =>
    obtain ⟨k, off, cs, d, n, h1, h2, h3, h4, h5⟩ := hr
    have h6 : a.tmps.getD t undef = .pointer (some ⟨γ.bx k, off, none⟩) := (h.slots t _ h1).1
    obtain ⟨us, h7, h8⟩ := h.boxcells h2
    have hl : ∀ v, (Instr.loadAt T (.pointer (some ⟨γ.bx k, off, none⟩))).run P w = .ok v w → ((do loadVar T (← asAddr (a.tmps.getD t undef)) : Sem Value)).run P w = .ok v w := fun v hv => by
      rw [h6]
      simpa [Instr.loadAt, Instr.sureAddr, asAddr] using hv
    split at h5
    · rename_i hrow
      refine ⟨_, .agg ((us.drop off).take n).toArray, h5.2, .g ((h7.drop off).take n), hl _ (run_loadAt_mid w _ off T _ d (fun j v hv => ?_) h3 hrow ?_)⟩
      · rw [List.getElem?_take] at hv
        split at hv
        · rw [List.getElem?_drop] at hv; exact h8 _ _ hv
        · cases hv
      · have := (h7.drop off).length
        rw [h4, List.length_take, this, Nat.min_eq_left h5.1]
    · rename_i hrow
      obtain ⟨p, h9, h10⟩ := h5
      obtain ⟨u, h11, h12⟩ := (h7.drop off).get h9
      refine ⟨_, u, h10, .c h12, hl _ (run_load_one w _ off T d u (h8 _ _ ?_) h3 (by simpa using hrow))⟩
      rw [List.getElem?_drop] at h11
      simpa using h11
theorem retAll_ok {σ : St} {γ : Gh} {a : Act} {w : World} (h : Rel F σ γ a w) : ∀ {l : List ResultVar} {K : List CV → Prop}, retAll P σ l K → ∃ cs us, K cs ∧ RepCL (rdr F.R0 F.w0.heap.size σ γ w) cs us ∧
    (l.mapM (resOne a.tmps)).run P w = .ok us w
  | [], K, hr => ⟨[], [], hr, .nil, by simp⟩
  | r :: l, K, hr => by
    obtain ⟨c, u, h1, h2, h3⟩ := retOne_ok h hr
    obtain ⟨cs, us, h4, h5, h6⟩ := retAll_ok h h1
    refine ⟨_, _, h4, .cons h2 h5, ?_⟩
    rw [List.mapM_cons, Sem.run_bind, h3, Result.andThen_ok, Sem.run_bind, h6]
    rfl
/-- What the frame may read of its own blocks, and will stay. -/
theorem rdr_fresh {R : Reader} {w0 w : World} {σ : St} {γ : Gh} : ∀ p v, rdr R w0.heap.size σ γ w p = some v → fresh R w0 w none 0 p = some v := by
  intro p v hp
  unfold fresh
  unfold rdr at hp
  by_cases hB : p.block < w0.heap.size
  · rw [if_pos hB] at hp ⊢; exact hp
  · rw [if_neg hB] at hp ⊢
    rw [if_neg (by rintro ⟨h1, _⟩; cases h1)]
    by_cases hm : σ.mut γ p
    · rw [if_pos hm] at hp; cases hp
    · rw [if_neg hm] at hp; exact hp
def startSt (args : List AV) : St := ⟨args.zipIdx.map fun x => (x.2, x.1), [], [], Ext.nil⟩
theorem look_start (args : List AV) (n t : Nat) : look ((args.zipIdx n).map fun x => (x.2, x.1)) t = if n ≤ t then args[t - n]? else none := by
  induction args generalizing n with
  | nil => simp [look]
  | cons x l ih =>
    rw [List.zipIdx_cons, List.map_cons, look_cons]
    by_cases h : n = t
    · subst h; simp
    · rw [if_neg h, ih]
      by_cases h1 : n ≤ t
      · rw [if_pos h1, if_pos (by omega)]
        rw [show t - n = (t - (n + 1)) + 1 by omega, List.getElem?_cons_succ]
      · rw [if_neg h1, if_neg (by omega)]
theorem RepAL.get {R : Reader} {xs : List AV} {us : List Value} (h : RepAL R xs us) : ∀ {i : Nat} {x : AV}, xs[i]? = some x → ∃ u, us[i]? = some u ∧ RepA R (fun _ => 0) x u ∧ x.refs = [] := by
  induction h with
  | nil => intro i x hx; simp at hx
  | cons h hr _ ih =>
    intro i x hx
    cases i with
    | zero => simp at hx; subst hx; exact ⟨_, rfl, h, hr⟩
    | succ i => simpa using ih (by simpa using hx)
theorem RepAL.length {R : Reader} {xs : List AV} {us : List Value} (h : RepAL R xs us) : us.length = xs.length := by
  induction h with
  | nil => rfl
  | cons _ _ _ ih => simp [ih]
/-- A FUNCTION. -/
theorem fn_ok {f : FuncId} {fn : Func} {c : Code} {args : List AV} {res : FRes} (hf : P.funcs[f]? = some fn) (hname : (fn.name == "runtime.NumGoroutine") = false) (hb : fn.body = some c) (hn : args.length ≤ fn.ntmps ∧ fn.ntmps ≤ 1000000)
    (h : ∀ F : Fr, F.n = fn.ntmps → AWp P F c (fun x σ => (match x with | .exit _ => False | _ => True) ∧ RetOK P fn.results σ res) (startSt args)) : FnOK P f args res := by
  refine ⟨⟨fn, c, hf, hname, hb⟩, fun w R hR us hus => calls_of_wp hf hb ?_⟩
  have hlen := hus.length
  let F : Fr := ⟨R, w, fn.ntmps⟩
  have hmut : ∀ γ p, ¬ (startSt args).mut γ p := fun γ p => by
    rintro (⟨k, cs, h1, _⟩ | ⟨L, e, sz, rows, h1, _⟩ | h1) <;> cases h1
  let γ0 : Gh := ⟨fun _ => 0, fun _ => none⟩
  have hR0 : ∀ p v, R p = some v → rdr R w.heap.size (startSt args) γ0 w p = some v := fun p v hp => by
    have := Rel.cell_lt (hR p v hp)
    unfold rdr
    rw [if_pos this]; exact hp
  have hrel : Rel F (startSt args) γ0 { tmps := us.toArray ++ Array.replicate (fn.ntmps - us.toArray.size) undef, defers := [] } w := by
    refine ⟨rfl, ?_, Below.refl _ _, hR, fun t x hx => ?_, fun k cs hk => (by cases hk), fun k k' hk => (by cases hk), fun L e sz hL => (by cases hL), fun L L' g hL => (by cases hL), fun L k g hL => (by cases hL), trivial, fun b hb => hb.elim (fun h => h.elim) (fun h => h.elim), hn.2, fun k hk => (by cases hk)⟩
    · show _ = fn.ntmps
      simp; omega
    · have hx' : args[t]? = some x := by
        have := hx
        unfold startSt at this
        rw [look_start] at this
        simpa using this
      obtain ⟨u, h1, h2, h3⟩ := hus.get hx'
      have ht : t < us.length := (List.getElem?_eq_some_iff.1 h1).1
      refine ⟨?_, fun k hk => by rw [h3] at hk; cases hk⟩
      have : (us.toArray ++ Array.replicate (fn.ntmps - us.toArray.size) undef).getD t undef = u := by
        rw [Array.getD_eq_getD_getElem?, Array.getElem?_append_left (by simpa using ht)]
        simp [h1]
      rw [this]
      exact h2.mono hR0 (fun k _ => rfl)
  refine wp_mono (h F rfl γ0 _ w hrel) ?_
  rintro e a' w' ⟨x, σ', γ', rfl, ⟨hx, hret⟩, hr'⟩
  have hbody : ∀ v, (results fn a'.tmps).run P w' = .ok v w' ∧ ResRep R w w' res v → bodyPost P fn (fun e w' => ∃ u, e = .returned u ∧ Below w.heap.size w w' ∧ ResRep R w w' res u) x.exit_ a' w' := fun v hv => by
    cases x with
    | normal => exact ⟨hr'.defers, v, hv.1, v, rfl, hr'.below, hv.2⟩
    | exit id => exact hx.elim
    | ret => exact ⟨hr'.defers, v, hv.1, v, rfl, hr'.below, hv.2⟩
  rcases hret with ⟨t, sz, rows, e, h1, h2, h3, rfl⟩ | hret
  · refine hbody (a'.tmps.getD t undef) ⟨by simp [results_eq, h1, resOne], ?_⟩
    obtain ⟨rows', v, h4, h5, h6⟩ := hr'.owns _ _ _ h3
    have h7 : look σ'.slot t = some (.sl sz rows') := h4
    rw [h2] at h7
    cases h7
    have h8 : v = a'.tmps.getD t undef := by simpa [valAt] using h5.symm
    subst h8
    refine ⟨γ'.rw (.s t), h6, RepP.mono (fun p v hp => ?_) (hr'.slots t _ h2).1⟩
    unfold fresh
    unfold rdr at hp
    by_cases hB : p.block < w.heap.size
    · rw [if_pos hB]; rw [if_pos hB] at hp; exact hp
    · rw [if_neg hB] at hp ⊢
      by_cases hm : σ'.mut γ' p
      · rw [if_pos hm] at hp; cases hp
      · rw [if_neg hm] at hp
        rw [if_neg]
        · exact hp
        · rintro ⟨h9, h10⟩
          exact hm (.inr (.inl ⟨.s t, e, sz, rows, h3, h2, h9, h10⟩))
  · obtain ⟨cs, vs, h1, h2, h3⟩ := retAll_ok hr' hret
    have hrun : (results fn a'.tmps).run P w' = .ok (if h : vs.toArray.size = 1 then vs.toArray[0] else .tuple vs.toArray) w' := by
      rw [results_eq, Array.mapM_eq_mapM_toList, Sem.run_bind, Sem.run_map, h3]
      rfl
    have hmono : ∀ {c : CV} {u : Value}, RepC (rdr R w.heap.size σ' γ' w') c u → RepA (fresh R w w' none 0) (fun _ => 0) c.av u := fun hc => (hc.mono rdr_fresh).av
    refine hbody _ ⟨hrun, ?_⟩
    subst h1
    cases h2 with
    | nil => exact ⟨rfl, [], by simp, .nil⟩
    | cons hc ht =>
      cases ht with
      | nil =>
        refine ⟨?_, by simpa using hmono hc⟩
        rename_i c _
        cases c with
        | c p => cases p <;> rfl
        | g xs => rfl
      | cons hc' ht' =>
        exact ⟨rfl, _, by simp, .cons (hc.mono rdr_fresh) (.cons (hc'.mono rdr_fresh) (ht'.mono rdr_fresh))⟩

end

end Av
end Go.Proofs.Ytkdigdnacggknaa
/- Abstract states: regions that draw their order: operations without effects in whatever order, then others in theirs. Generic. -/
namespace Go.Proofs.Ytkdigdnacggknaa
open Go.RowKit
namespace Av

section
variable {P : Program} {ops : Array Oper} {Q : Exit → Act → World → Prop}
def cntU (n : Nat) (listed : Array Bool) : Nat := match n with
  | 0 => 0
  | n + 1 => cntU n listed + if listed.getD n true = true then 0 else 1
theorem cntU_set {listed : Array Bool} {j : Nat} : ∀ {n : Nat}, listed.getD j true = false → (j < n → cntU n (listed.setIfInBounds j true) + 1 = cntU n listed) ∧ (n ≤ j → cntU n (listed.setIfInBounds j true) = cntU n listed)
  | 0, _ => ⟨fun h => (by omega), fun _ => rfl⟩
  | n + 1, h => by
    obtain ⟨h1, h2⟩ := cntU_set (n := n) h
    have hjs : j < listed.size := by
      rcases Nat.lt_or_ge j listed.size with h' | h'
      · exact h'
      · simp [Array.getElem?_eq_none h'] at h
    constructor
    · intro hj
      unfold cntU
      by_cases hjn : j = n
      · subst hjn
        rw [h2 (Nat.le_refl _), h]
        simp [hjs]
      · have := h1 (by omega)
        rw [getD_set_ne true hjn]
        omega
    · intro hj
      unfold cntU
      rw [h2 (by omega), getD_set_ne true (by omega)]
theorem cntU_pos {listed : Array Bool} : ∀ {n : Nat}, 0 < cntU n listed → ∃ i, i < n ∧ listed.getD i true = false ∧ ∀ j, j < i → listed.getD j true = true
  | 0, h => by simp [cntU] at h
  | n + 1, h => by
    by_cases h0 : 0 < cntU n listed
    · obtain ⟨i, h1, h2⟩ := cntU_pos h0
      exact ⟨i, by omega, h2⟩
    · unfold cntU at h
      have hn : listed.getD n true = false := by
        cases hq : listed.getD n true with
        | false => rfl
        | true => rw [hq] at h; simp at h; omega
      refine ⟨n, by omega, hn, fun j hj => ?_⟩
      cases hq : listed.getD j true with
      | true => rfl
      | false =>
        exfalso
        apply h0
        clear h h0 hn
        induction n with
        | zero => omega
        | succ n ih =>
          unfold cntU
          by_cases hjn : j = n
          · subst hjn; rw [hq]; simp
          · have := ih (by omega); omega
theorem cntU_zero {listed : Array Bool} : ∀ {n : Nat}, cntU n listed = 0 → ∀ i, i < n → listed.getD i true = true
  | 0, _, i, hi => by omega
  | n + 1, h, i, hi => by
    unfold cntU at h
    by_cases hin : i = n
    · subst hin
      cases hq : listed.getD i true with
      | true => rfl
      | false => rw [hq] at h; simp at h
    · exact cntU_zero (n := n) (by omega) i (by omega)
/-- The head in whatever order. -/
theorem any_head {n g : Nat} {Inv : Array Bool → Act → World → Prop} (hn : n ≤ ops.size) (hback : ∀ i o, i < n → ops[i]? = some o → ∀ e ∈ o.after, Region.binds .any e = true → e.on < i)
    (htail : n = ops.size ∨ (Region.sinkB .any ops n = true ∧ Region.chainB .any ops n = true ∧ n < ops.size))
    (step : ∀ i listed a w, i < n → i ∈ Region.ready .any ops listed → HeadInv .any ops n listed → Inv listed a w → wpOp P ops Q i (fun a' w' => Inv (listed.setIfInBounds i true) a' w') a w)
    (fin : ∀ listed a w, HeadInv .any ops n listed → (∀ i, i < n → listed.getD i true = true) → Inv listed a w → wpAny P .any ops Q g listed a w) :
    ∀ (f : Nat) (listed : Array Bool) (a : Act) (w : World), cntU n listed = f → HeadInv .any ops n listed → Inv listed a w → wpAny P .any ops Q (f + g) listed a w
  | 0, listed, a, w, hc, inv, hI => by
    rw [Nat.zero_add]
    exact fin listed a w inv (cntU_zero hc) hI
  | f + 1, listed, a, w, hc, inv, hI => by
    rw [show f + 1 + g = (f + g) + 1 by omega]
    have hlt : ∀ j ∈ Region.ready .any ops listed, j < n := fun j hj => by
      obtain ⟨i, h1, h2, _⟩ := cntU_pos (n := n) (listed := listed) (by omega)
      rcases Nat.lt_or_ge j n with h | h
      · exact h
      · rcases htail with h3 | ⟨h3, h4, h5⟩
        · obtain ⟨_, o, ho, _⟩ := mem_ready.1 hj
          have := (Array.getElem?_eq_some_iff.1 ho).1
          omega
        · exact absurd hj (tail_waits h3 h4 h5 inv _ i rfl h1 h2 j h)
    refine ⟨fun h0 => ?_, fun j hj => wpOp_mono (fun a' w' h' => any_head hn hback htail step fin f _ a' w' ?_ (inv.set hj (hlt j hj)) h') (step j listed a w (hlt j hj) hj inv hI)⟩
    · obtain ⟨i, h1, h2, h3⟩ := cntU_pos (n := n) (listed := listed) (by omega)
      have hmem : i ∈ Region.ready .any ops listed := by
        have hi : i < ops.size := by omega
        refine mem_ready.2 ⟨h2, ops[i], by simp [hi], fun e he hb => ?_⟩
        have h4 := hback i ops[i] h1 (by simp [hi]) e he hb
        have h5 := h3 e.on h4
        have hs : e.on < listed.size := by rw [inv.size]; omega
        simp [hs] at h5 ⊢
        exact h5
      rw [h0] at hmem
      cases hmem
    · have := (cntU_set (n := n) (mem_ready.1 hj).1).1 (hlt j hj)
      omega
end

theorem res_ext (σ : St) (d : Nat) (r : HR) : (σ.res d r).ext = σ.ext := by
  unfold St.res
  repeat' split
  all_goals rfl
/-- States in which some of the results stand. -/
structure Lk (σ0 : St) (rs : List (Nat × HR)) (L : Nat → Prop) (σ : St) : Prop where
  in_ : ∀ (j d : Nat) (r : HR), L j → rs[j]? = some (d, r) → look σ.slot d = some r.av ∧ (∀ cs, bxOf r = some cs → look σ.box d = some cs) ∧ lookL σ.own (.s d) = ownOf r
  out : ∀ t, (∀ (j d : Nat) (r : HR), L j → rs[j]? = some (d, r) → d ≠ t) → look σ.slot t = look σ0.slot t ∧ lookL σ.own (.s t) = lookL σ0.own (.s t)
  box : ∀ k, (∀ (j d : Nat) (r : HR), L j → rs[j]? = some (d, r) → (bxOf r).isSome = true → d ≠ k) → look σ.box k = look σ0.box k
  cell : ∀ k off, lookL σ.own (.b k off) = lookL σ0.own (.b k off)
  ext : σ.ext = σ0.ext
theorem Lk.start (σ0 : St) (rs : List (Nat × HR)) : Lk σ0 rs (fun _ => False) σ0 := ⟨fun _ _ _ h => h.elim, fun _ _ => ⟨rfl, rfl⟩, fun _ _ => rfl, fun _ _ => rfl, rfl⟩
theorem Lk.step {σ0 : St} {rs : List (Nat × HR)} {L : Nat → Prop} {σ : St} (h : Lk σ0 rs L σ) (hnd : ∀ (i j d : Nat) (r r' : HR), rs[i]? = some (d, r) → rs[j]? = some (d, r') → i = j) {i d : Nat} {r : HR} (hi : rs[i]? = some (d, r)) (hL : ¬ L i) : Lk σ0 rs (fun j => L j ∨ j = i) (σ.res d r) := by
  have hne : ∀ (j d' : Nat) (r' : HR), L j → rs[j]? = some (d', r') → d ≠ d' := fun j d' r' hj hr e => by
    subst e
    have := hnd i j d r r' hi hr
    subst this
    exact hL hj
  refine ⟨fun j d' r' hj hr => ?_, fun t ht => ?_, fun k hk => ?_, fun k off => by rw [res_own, if_neg (by simp)]; exact h.cell k off, (res_ext σ d r).trans h.ext⟩
  · rcases hj with hj | rfl
    · obtain ⟨h1, h2, h3⟩ := h.in_ j d' r' hj hr
      have := hne j d' r' hj hr
      refine ⟨by rw [res_slot, if_neg this]; exact h1, fun cs hcs => ?_, by rw [res_own, if_neg (by simpa using fun e => this e.symm)]; exact h3⟩
      rw [res_box]
      cases bxOf r with
      | none => exact h2 cs hcs
      | some cs' => simp only; rw [if_neg this]; exact h2 cs hcs
    · rw [hi] at hr
      cases hr
      exact ⟨by rw [res_slot, if_pos rfl], fun cs hcs => by rw [res_box, hcs]; simp, by rw [res_own, if_pos rfl]⟩
  · have hdt : d ≠ t := ht i d r (.inr rfl) hi
    obtain ⟨h1, h2⟩ := h.out t (fun j d' r' hj hr => ht j d' r' (.inl hj) hr)
    exact ⟨by rw [res_slot, if_neg hdt]; exact h1, by rw [res_own, if_neg (by simpa using fun e => hdt e.symm)]; exact h2⟩
  · rw [res_box]
    have h1 := h.box k (fun j d' r' hj hr hb => hk j d' r' (.inl hj) hr hb)
    cases hb : bxOf r with
    | none => exact h1
    | some cs =>
      have := hk i d r (.inr rfl) hi (by rw [hb]; rfl)
      simp only
      rw [if_neg this]
      exact h1
theorem Lk.of_iff {σ0 : St} {rs : List (Nat × HR)} {L L' : Nat → Prop} {σ : St} (h : Lk σ0 rs L σ) (he : ∀ j, L' j ↔ L j) : Lk σ0 rs L' σ :=
  ⟨fun j d r hj => h.in_ j d r ((he j).1 hj), fun t ht => h.out t (fun j d r hj => ht j d r ((he j).2 hj)), fun k hk => h.box k (fun j d r hj => hk j d r ((he j).2 hj)), h.cell, h.ext⟩
theorem Lk.same {σ0 : St} {rs : List (Nat × HR)} {L : Nat → Prop} {σ σ' : St} (h : Lk σ0 rs L σ) (h' : Lk σ0 rs L σ') : (∀ t, look σ'.slot t = look σ.slot t) ∧ (∀ k, look σ'.box k = look σ.box k) ∧ (∀ M, lookL σ'.own M = lookL σ.own M) ∧ σ'.ext = σ.ext := by
  have key : ∀ t, look σ'.slot t = look σ.slot t ∧ lookL σ'.own (.s t) = lookL σ.own (.s t) := fun t => by
    by_cases ht : ∃ j r, L j ∧ rs[j]? = some (t, r)
    · obtain ⟨j, r, hj, hr⟩ := ht
      obtain ⟨h1, _, h2⟩ := h.in_ j t r hj hr
      obtain ⟨h3, _, h4⟩ := h'.in_ j t r hj hr
      exact ⟨h3.trans h1.symm, h4.trans h2.symm⟩
    · have hno : ∀ (j d : Nat) (r : HR), L j → rs[j]? = some (d, r) → d ≠ t := fun j d r hj hr e => ht ⟨j, r, hj, by rw [← e]; exact hr⟩
      obtain ⟨h1, h2⟩ := h.out t hno
      obtain ⟨h3, h4⟩ := h'.out t hno
      exact ⟨h3.trans h1.symm, h4.trans h2.symm⟩
  refine ⟨fun t => (key t).1, fun k => ?_, fun M => ?_, h'.ext.trans h.ext.symm⟩
  · by_cases hk : ∃ j r, L j ∧ rs[j]? = some (k, r) ∧ (bxOf r).isSome = true
    · obtain ⟨j, r, hj, hr, hb⟩ := hk
      obtain ⟨cs, hcs⟩ := Option.isSome_iff_exists.1 hb
      rw [(h.in_ j k r hj hr).2.1 cs hcs, (h'.in_ j k r hj hr).2.1 cs hcs]
    · have hno : ∀ (j d : Nat) (r : HR), L j → rs[j]? = some (d, r) → (bxOf r).isSome = true → d ≠ k := fun j d r hj hr hb e => hk ⟨j, r, hj, by rw [← e]; exact hr, hb⟩
      rw [h.box k hno, h'.box k hno]
  · cases M with
    | s t => exact (key t).2
    | b k off => rw [h.cell, h'.cell]

/-- An operation of the head that is walked by hand: it changes nothing that is there. -/
def HandQ (P : Program) (N : Nat) (bx0 : Nat → Option (List PV)) (σ : St) (o : Oper) (d : Nat) (r : HR) : Prop :=
  ∀ (F : Fr) (σ1 : St) (γ : Gh) (a : Act) (w : World), F.n = N → Rel F σ1 γ a w → (∀ t y, Operand.tmp t ∈ o.op.operands.toList → look σ.slot t = some y → look σ1.slot t = some y) → (∀ k cs, bx0 k = some cs → look σ1.box k = some cs) → σ1.ext = σ.ext →
    ∀ Q : Exit → Act → World → Prop, o.wp P a w (Stp P F σ1 γ a w o d (σ1.res d r)) Q
/-- The head's operations, in the text's order; sl: the rows that are handed on behind it. -/
def headW (P : Program) (N : Nat) (st : List Nat) (ops : Array Oper) (bx0 : Nat → Option (List PV)) : List Oper → St → List (Nat × Loc) → (St → List (Nat × Loc) → Prop) → Prop
  | [], σ, sl, K => K σ sl
  | o :: l, σ, sl, K => ∃ d, o.dst = some d ∧ d < N ∧ match guardB ops (look σ.slot) o with
    | some true => if st.contains (d + 1000000) = true then ∃ r, HandQ P N bx0 σ o d r ∧ r.box = none ∧ src P (look σ.slot) o = none ∧ headW P N st ops bx0 l (σ.res d r) sl K else hopx P (look σ.slot) bx0 o (fun r => ((bxOf r).isSome = true → bx0 d = none) ∧ headW P N st ops bx0 l (σ.res d r) (if o.guard.isNone && st.contains d then (match src P (look σ.slot) o with | some S => (d, S) :: sl | none => sl) else sl) K)
    | some false => headW P N st ops bx0 l (σ.put d (.v undef)) sl K
    | none => False
def steals (σ : St) : List (Nat × Loc) → St
  | [] => σ
  | x :: l => stealSt (steals σ l) (.s x.1) x.2
theorem steals_slot (σ : St) : ∀ l : List (Nat × Loc), (steals σ l).slot = σ.slot ∧ (steals σ l).box = σ.box
  | [] => ⟨rfl, rfl⟩
  | x :: l => by
    obtain ⟨h1, h2⟩ := steals_slot σ l
    obtain ⟨h3, h4⟩ := stealSt_slot (steals σ l) (.s x.1) x.2
    exact ⟨h3.trans h1, h4.trans h2⟩
theorem avAt_same {σ σ' : St} (h1 : σ'.slot = σ.slot) (h2 : σ'.box = σ.box) (L : Loc) : σ'.avAt L = σ.avAt L := by cases L <;> simp [St.avAt, h1, h2]
theorem valAt_same {a : Act} {w : World} {γ γ' : Gh} (h : γ'.bx = γ.bx) (L : Loc) : valAt a w γ' L = valAt a w γ L := by cases L <;> simp [valAt, h]
theorem Rel.steals {F : Fr} {σ : St} {γ : Gh} {a : Act} {w : World} (h : Rel F σ γ a w) : ∀ l : List (Nat × Loc), (∀ x ∈ l, σ.avAt (.s x.1) = σ.avAt x.2 ∧ (valAt a w γ x.2 = none ∨ valAt a w γ (.s x.1) = valAt a w γ x.2)) → ∃ γ', γ'.bx = γ.bx ∧ Rel F (steals σ l) γ' a w
  | [], _ => ⟨γ, rfl, h⟩
  | x :: l, hl => by
    obtain ⟨γ', h1, h2⟩ := Rel.steals h l (fun y hy => hl y (List.mem_cons_of_mem _ hy))
    obtain ⟨h3, h4⟩ := hl x List.mem_cons_self
    obtain ⟨h5, h6⟩ := steals_slot σ l
    obtain ⟨γ'', h7, h8⟩ := h2.stealSt (D := .s x.1) (S := x.2) (fun _ _ => by rw [avAt_same h5 h6, avAt_same h5 h6]; exact h3) (fun hne => by
      rw [valAt_same h1] at hne
      rw [valAt_same h1, valAt_same h1]
      exact h4.resolve_left hne)
    exact ⟨γ'', h7.trans h1, h8⟩
section
variable {P : Program} {F : Fr} {ops : Array Oper} {bx0 : Nat → Option (List PV)}
/-- What is known of one operation of the head. -/
structure StepOK (P : Program) (F : Fr) (ops : Array Oper) (bx0 : Nat → Option (List PV)) (σi : St) (o : Oper) (d : Nat) (r : HR) (S : Option Loc) : Prop where
  dst : o.dst = some d
  lt : d < F.n
  newbox : (bxOf r).isSome = true → bx0 d = none
  src_ : ∀ L, S = some L → avOf (look σi.slot) bx0 L = some r.av ∧ ∀ t, L = .s t → t ∈ o.looksAt ops
  run : ∀ σ γ a w, Rel F σ γ a w → (∀ t y, t ∈ o.looksAt ops → look σi.slot t = some y → look σ.slot t = some y) → (∀ k cs, bx0 k = some cs → look σ.box k = some cs) → (bx0 d = none → look σ.box d = none) → σ.ext = σi.ext →
    ∀ Q i, ops[i]? = some o → wpOp P ops Q i (fun a' w' => ∃ γ' u, a' = a.put (some d) u ∧ Below w.heap.size w w' ∧ (∀ k, (look σ.box k).isSome → γ'.bx k = γ.bx k) ∧ Rel F (σ.res d r) γ' a' w' ∧
      ∀ L, S = some L → valAt a w γ L = some u ∨ valAt a w γ L = none) a w
inductive Run (P : Program) (F : Fr) (ops : Array Oper) (bx0 : Nat → Option (List PV)) : List Oper → St → List (Nat × HR × Option Loc) → St → Prop
  | nil {σ : St} : Run P F ops bx0 [] σ [] σ
  | cons {o : Oper} {l : List Oper} {σ σ' : St} {d : Nat} {r : HR} {S : Option Loc} {rs : List (Nat × HR × Option Loc)} (h : StepOK P F ops bx0 σ o d r S) (t : Run P F ops bx0 l (σ.res d r) rs σ') : Run P F ops bx0 (o :: l) σ ((d, r, S) :: rs) σ'
theorem mem_looks {o : Oper} {t : Nat} (h : Operand.tmp t ∈ o.op.operands.toList) : t ∈ o.looksAt ops := by
  unfold Oper.looksAt
  exact List.mem_append_left _ (List.mem_filterMap.2 ⟨_, h, rfl⟩)
theorem mem_looks_guard {o : Oper} {j t : Nat} {want : Bool} (h : o.guard = some (j, want)) (ht : (ops[j]?).bind (·.dst) = some t) : t ∈ o.looksAt ops := by
  unfold Oper.looksAt
  refine List.mem_append_right _ ?_
  rw [h]
  simp [ht]
theorem src_slot {g : Nat → Option AV} {o : Oper} {t : Nat} (h : src P g o = some (.s t)) : Operand.tmp t ∈ o.op.operands.toList := by
  unfold src at h
  split at h
  · rename_i s ho
    cases h
    simp [ho, Op.operands]
  · rename_i s ho
    cases h
    simp [ho, Op.operands]
  · split at h
    · split at h <;> cases h
    · cases h
  · cases h
theorem headW_run {st : List Nat} {K : St → List (Nat × Loc) → Prop} : ∀ {l : List Oper} {σ : St} {sl : List (Nat × Loc)}, headW P F.n st ops bx0 l σ sl K → ∃ rs σ' sl', Run P F ops bx0 l σ rs σ' ∧ K σ' sl' ∧ ∀ x ∈ sl', x ∈ sl ∨ ∃ r, (x.1, r, some x.2) ∈ rs
  | [], σ, sl, h => ⟨[], σ, sl, .nil, h, fun x hx => .inl hx⟩
  | o :: l, σ, sl, h => by
    obtain ⟨d, hd, hdn, h⟩ := h
    split at h
    · rename_i hg
      split at h
      · obtain ⟨r, hq, hb0, hsrc, h1⟩ := h
        obtain ⟨rs, σ', sl', h5, h6, h7⟩ := headW_run h1
        have hbx : bxOf r = none := by unfold bxOf; rw [hb0]; repeat' split <;> rfl
        refine ⟨(d, r, none) :: rs, σ', sl', .cons ⟨hd, hdn, fun hc => (by rw [hbx] at hc; cases hc), fun L hL => (by cases hL), fun σ1 γ a w hr ht hb hbd hext Q i hi => ?_⟩ h5, h6, fun x hx => ?_⟩
        · unfold wpOp
          rw [hi]
          dsimp only
          rw [guard_ok hr (g := look σ.slot) (fun j want t y hj hdt hy => ht t y (mem_looks_guard hj hdt) hy) hg, if_pos rfl]
          refine .inl (Oper.wp_mono (fun a' w' hst => ?_) (hq F σ1 γ a w rfl hr (fun t y hm hy => ht t y (mem_looks hm) hy) hb hext Q))
          obtain ⟨γ', u, e1, e2, e3, e4, e5⟩ := hst
          exact ⟨γ', u, e1, e2, e3, e4, fun L hL => (by cases hL)⟩
        · rcases h7 x hx with h8 | ⟨r', h8⟩
          · exact .inl h8
          · exact .inr ⟨r', List.mem_cons_of_mem _ h8⟩
      obtain ⟨r, ⟨hnb, h1⟩, h2, h3, h4⟩ := hopx_full (F := F) h hd hdn
      obtain ⟨rs, σ', sl', h5, h6, h7⟩ := headW_run h1
      refine ⟨(d, r, src P (look σ.slot) o) :: rs, σ', sl', .cons ⟨hd, hdn, hnb, fun L hL => ⟨h2 L hL, fun t ht => mem_looks (src_slot (by rw [hL, ht]))⟩, fun σ1 γ a w hr ht hb hbd _ Q i hi => ?_⟩ h5, h6, fun x hx => ?_⟩
      · unfold wpOp
        rw [hi]
        dsimp only
        rw [guard_ok hr (g := look σ.slot) (fun j want t y hj hdt hy => ht t y (mem_looks_guard hj hdt) hy) hg, if_pos rfl]
        refine .inl (Oper.wp_mono (fun a' w' hst => ?_) (h4 σ1 γ a w hr (fun t y hm hy => ht t y (mem_looks hm) hy) hb hbd Q))
        obtain ⟨γ', u, e1, e2, e3, e4, e5⟩ := hst
        exact ⟨γ', u, e1, e2, e3, e4, fun L hL => e5 (look σ.slot) L (fun t y hm hy => ht t y (mem_looks hm) hy) hL⟩
      · rcases h7 x hx with h8 | ⟨r', h8⟩
        · split at h8
          · split at h8
            · rename_i S hS
              rcases List.mem_cons.1 h8 with rfl | h8
              · exact .inr ⟨r, by rw [hS]; exact List.mem_cons_self⟩
              · exact .inl h8
            · exact .inl h8
          · exact .inl h8
        · exact .inr ⟨r', List.mem_cons_of_mem _ h8⟩
    · rename_i hg
      obtain ⟨rs, σ', sl', h5, h6, h7⟩ := headW_run h
      refine ⟨(d, ⟨.v undef, none, none⟩, none) :: rs, σ', sl', .cons ⟨hd, hdn, fun hc => (by cases hc), fun L hL => (by cases hL), fun σ1 γ a w hr ht hb hbd _ Q i hi => ?_⟩ h5, h6, fun x hx => ?_⟩
      · unfold wpOp
        rw [hi]
        dsimp only
        rw [guard_ok hr (g := look σ.slot) (fun j want t y hj hdt hy => ht t y (mem_looks_guard hj hdt) hy) hg, if_neg (by simp), hd]
        exact ⟨γ, undef, rfl, Below.refl _ _, fun _ _ => rfl, hr.put hdn (x := .v undef) (u := undef) rfl (fun k hk => by cases hk), fun L hL => by cases hL⟩
      · rcases h7 x hx with h8 | ⟨r', h8⟩
        · exact .inl h8
        · exact .inr ⟨r', List.mem_cons_of_mem _ h8⟩
    · cases h
end

end Av
end Go.Proofs.Ytkdigdnacggknaa
