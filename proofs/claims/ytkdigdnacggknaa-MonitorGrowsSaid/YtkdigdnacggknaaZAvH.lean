import Derived.Laws.Slices
import Derived.Laws.Strings2
import Derived.Test.YtkdigdnacggknaaZAvM
/- Abstract states: calls, and all operations without effects. Generic. -/
namespace Go.Proofs.Ytkdigdnacggknaa
open Go.RowKit
namespace Av

section
variable {P : Program} {F : Fr} {σ : St} {γ : Gh} {a : Act} {w : World}
theorem Rel.boxcells (h : Rel F σ γ a w) {k : Nat} {cs : List PV} (hk : look σ.box k = some cs) : ∃ us, RepL (rdr F.R0 F.w0.heap.size σ γ w) cs us ∧ ∀ (i : Nat) (u : Value), us[i]? = some u → w.cell? ⟨γ.bx k, i, none⟩ = some u := by
  obtain ⟨us, ty, h1, _, h3⟩ := h.boxes k cs hk
  refine ⟨us, h3, fun i u hu => ?_⟩
  rw [cell_of_row w _ i _ ty (0, 0) h1]
  simpa using hu
theorem Rel.snapE (h : Rel F σ γ a w) {k off : Nat} {cs : List PV} (hk : look σ.box k = some cs) : RepE (fun p => w.cell? p) (cs.drop off) (.pointer (some ⟨γ.bx k, off, none⟩)) := by
  obtain ⟨us, h1, h2⟩ := h.boxcells hk
  exact ⟨_, _, us.drop off, rfl, (h1.drop off).mono (fun _ _ hp => h.cell hp), fun i x hx => h2 _ _ (by rw [List.getElem?_drop] at hx; exact hx)⟩
theorem snapCaps_ok (h : Rel F σ γ a w) {bx : Nat → Option (List PV)} (hbx : ∀ k cs, bx k = some cs → look σ.box k = some cs) : ∀ {caps : List (Nat × Nat)} {r : List (List PV)}, snapCaps bx caps = some r →
    RepEL (fun p => w.cell? p) r (caps.map fun c => Value.pointer (some ⟨γ.bx c.1, c.2, none⟩))
  | [], r, hr => by cases hr; exact .nil
  | c :: caps, r, hr => by
    unfold snapCaps at hr
    split at hr
    · rename_i cs r' h1 h2
      cases hr
      exact .cons (h.snapE (hbx _ _ h1)) (snapCaps_ok h hbx h2)
    · cases hr
theorem snap_ok (h : Rel F σ γ a w) {bx : Nat → Option (List PV)} (hbx : ∀ k cs, bx k = some cs → look σ.box k = some cs) {x x' : AV} {u : Value} (hx : RepA (rdr F.R0 F.w0.heap.size σ γ w) γ.bx x u) (hs : snap bx x = some x') :
    x'.refs = [] ∧ RepA (fun p => w.cell? p) (fun _ => 0) x' u ∧ (x.refs = [] → RepA (rdr F.R0 F.w0.heap.size σ γ w) (fun _ => 0) x' u) := by
  have same : x.refs = [] → x' = x → x'.refs = [] ∧ RepA (fun p => w.cell? p) (fun _ => 0) x' u ∧ (x.refs = [] → RepA (rdr F.R0 F.w0.heap.size σ γ w) (fun _ => 0) x' u) := fun h1 h2 => by
    subst h2
    exact ⟨h1, hx.mono (fun _ _ hp => h.cell hp) (fun k hk => by rw [h1] at hk; cases hk), fun _ => hx.free h1⟩
  cases x with
  | v y => exact same rfl (by cases hs; rfl)
  | sl sz rows => exact same rfl (by cases hs; rfl)
  | agg xs => exact same rfl (by cases hs; rfl)
  | tup vs => cases hs
  | ref k off =>
    simp only [snap] at hs
    cases hk : bx k with
    | none => rw [hk] at hs; cases hs
    | some cs =>
      rw [hk] at hs
      cases hs
      rw [show u = _ from hx]
      exact ⟨rfl, h.snapE (hbx _ _ hk), fun h => by cases h⟩
  | ept row => exact same rfl (by cases hs; rfl)
  | clo f caps =>
    simp only [snap] at hs
    cases hk : snapCaps bx caps with
    | none => rw [hk] at hs; cases hs
    | some r =>
      rw [hk] at hs
      cases hs
      refine ⟨rfl, ⟨_, hx, snapCaps_ok h hbx hk⟩, fun h => ?_⟩
      have : caps = [] := by simpa [AV.refs] using h
      subst this
      cases hk
      exact ⟨[], hx, .nil⟩
  | fnv f caps => exact same rfl (by cases hs; rfl)
/-- Slots' data and their values. -/
inductive Reps (R : Reader) (σ : St) (bx : Nat → Nat) : List AV → List Value → Prop
  | nil : Reps R σ bx [] []
  | cons {x : AV} {u : Value} {xs : List AV} {us : List Value} (h : RepA R bx x u) (hr : ∀ k ∈ x.refs, (look σ.box k).isSome) (t : Reps R σ bx xs us) : Reps R σ bx (x :: xs) (u :: us)
theorem evos_ok (h : Rel F σ γ a w) {g : Nat → Option AV} : ∀ {l : List Operand} {vs : List AV}, (∀ t y, Operand.tmp t ∈ l → g t = some y → look σ.slot t = some y) → evos g l = some vs →
    Reps (rdr F.R0 F.w0.heap.size σ γ w) σ γ.bx vs (l.map a.eval)
  | [], vs, _, he => by cases he; exact .nil
  | x :: l, vs, hg, he => by
    unfold evos at he
    split at he
    · rename_i v vs' h1 h2
      cases he
      obtain ⟨h3, h4⟩ := evo_ok h (fun t y ht => hg t y (by rw [ht]; exact List.mem_cons_self)) h1
      exact .cons h3 h4 (evos_ok h (fun t y ht => hg t y (List.mem_cons_of_mem _ ht)) h2)
    · cases he
theorem snaps_ok (h : Rel F σ γ a w) {bx : Nat → Option (List PV)} (hbx : ∀ k cs, bx k = some cs → look σ.box k = some cs) : ∀ {vs vs' : List AV} {us : List Value}, Reps (rdr F.R0 F.w0.heap.size σ γ w) σ γ.bx vs us → snaps bx vs = some vs' →
    RepAL (fun p => w.cell? p) vs' us ∧ ((vs.all fun x => x.refs.isEmpty) = true → RepAL (rdr F.R0 F.w0.heap.size σ γ w) vs' us)
  | [], vs', us, hr, hs => by
    cases hr
    cases hs
    exact ⟨.nil, fun _ => .nil⟩
  | x :: vs, vs', us, hr, hs => by
    cases hr with
    | cons h1 h2 h3 =>
      unfold snaps at hs
      split at hs
      · rename_i v vs'' h4 h5
        cases hs
        obtain ⟨g1, g2, g3⟩ := snap_ok h hbx h1 h4
        obtain ⟨g4, g5⟩ := snaps_ok h hbx h3 h5
        refine ⟨.cons g2 g1 g4, fun hall => ?_⟩
        rw [List.all_cons, Bool.and_eq_true] at hall
        exact .cons (g3 (by simpa using hall.1)) g1 (g5 hall.2)
      · cases hs
theorem lit_any {R R' : Reader} {bx bx' : Nat → Nat} {x : AV} {u : Value} (hl : x.lit = true) (h : RepA R bx x u) : RepA R' bx' x u := by
  cases x with
  | v y => exact h
  | tup vs =>
    obtain ⟨us, e, h⟩ := h
    refine ⟨us, e, ?_⟩
    simp only [AV.lit] at hl
    clear e
    induction h with
    | nil => exact .nil
    | cons h _ ih =>
      rw [List.all_cons, Bool.and_eq_true] at hl
      refine .cons ?_ (ih hl.2)
      cases h with
      | c h => cases h with
        | v _ h => exact .c (.v _ h)
        | sl => simp at hl
      | g => simp at hl
  | sl => cases hl
  | agg => cases hl
  | ref => cases hl
  | ept => cases hl
  | clo => cases hl
  | fnv => cases hl
theorem lit_refs {x : AV} (hl : x.lit = true) : x.refs = [] := by cases x <;> first | rfl | cases hl
/-- What a call makes, as the caller may read it. -/
theorem fresh_le (h : Rel F σ γ a w) {w1 : World} (hb : Below w.heap.size w w1) : ∀ p v, fresh (rdr F.R0 F.w0.heap.size σ γ w) w w1 none 0 p = some v → rdr F.R0 F.w0.heap.size σ γ w1 p = some v := by
  intro p v hp
  unfold fresh at hp
  by_cases hlt : p.block < w.heap.size
  · rw [if_pos hlt] at hp; exact grow_le hb p v hp
  · rw [if_neg hlt, if_neg (by rintro ⟨h1, _⟩; cases h1)] at hp
    unfold rdr
    have := h.base
    rw [if_neg (by omega), if_neg ?_]
    · exact hp
    · rintro (⟨k, cs, hk, hpk⟩ | ⟨L, e, sz, rows, h1, h2, h3, h4⟩ | hx)
      · have := (h.box_lt (k := k) (by rw [hk]; rfl)).1; omega
      · have := (h.row_lt (L := L) (by rw [h1]; rfl) h3).1; omega
      · have := (h.extf _ (.inl hx)).2.1; omega
/-- A call's result goes into a slot. -/
theorem Rel.call (h : Rel F σ γ a w) {w1 : World} (hb : Below w.heap.size w w1) {d : Nat} (hd : d < F.n) {res : FRes} {u : Value} (hr : ResRep (rdr F.R0 F.w0.heap.size σ γ w) w w1 res u) :
    ∃ γ', (∀ k, γ'.bx k = γ.bx k) ∧ Rel F (σ.res d ⟨res.av, none, res.own⟩) γ' (a.put (some d) u) w1 := by
  obtain ⟨x, own⟩ := res
  cases own with
  | none =>
    obtain ⟨h1, h2⟩ := hr
    exact ⟨γ, fun _ => rfl, (h.grow hb).put hd ((h2.free h1).mono (fresh_le h hb) (fun _ _ => rfl)) (fun k hk => by rw [show x.refs = [] from h1] at hk; cases hk)⟩
  | some e =>
    cases x with
    | sl sz rows =>
      obtain ⟨q, h1, h2⟩ := hr
      refine ⟨γ.setRow (.s d) q, fun _ => rfl, ?_⟩
      have := h.row (d := d) hd (s := none) (sz := sz) (rows := rows) (e := e) (v := u) (q := q) hb.os hb.tape hb.output hb.size (fun k hk _ => hb.block k hk) (fun t ht => by cases ht)
        (fun g hg => .inl (by rw [hg] at h1; exact h1.lt.1)) (h1.low h.base) (RepP.mono (fun p v hp => ?_) h2)
      · exact this
      · unfold fresh at hp
        by_cases hlt : p.block < w.heap.size
        · rw [if_pos hlt] at hp
          rw [if_pos (by rw [hp]; rfl)]
          exact hp
        · rw [if_neg hlt] at hp
          have hnone : rdr F.R0 F.w0.heap.size σ γ w p = none := by
            cases hq : rdr F.R0 F.w0.heap.size σ γ w p with
            | none => rfl
            | some z => exact absurd (Rel.cell_lt (h.cell hq)) hlt
          rw [hnone, if_neg (by simp)]
          by_cases hqp : q = some p.block
          · by_cases hoff : rows.length * sz ≤ p.off
            · rw [if_pos ⟨hqp, hoff⟩] at hp; cases hp
            · rw [if_neg (fun e => hoff e.2)] at hp
              rw [if_pos ⟨hqp, by omega⟩]
              exact hp
          · rw [if_neg (fun e => hqp e.1)] at hp
            rw [if_neg (fun e => hqp e.1), if_neg (fun e => e.elim hlt hqp)]
            exact hp
    | v => cases hr
    | agg => cases hr
    | tup => cases hr
    | ref => cases hr
    | ept => cases hr
    | clo => cases hr
    | fnv => cases hr
theorem run_callFunc {f : FuncId} (h : Enters P f) (args : Array Value) (w : World) : (callFunc f args).run P w = .ok (.enter f args) w := by
  obtain ⟨fn, c, hf, hname, hb⟩ := h
  have h1 : fn.name ≠ "runtime.NumGoroutine" := by simpa using hname
  simp [callFunc, hf, h1, hb]
theorem RepEL.al {R : Reader} {caps : List (List PV)} {us : List Value} (h : RepEL R caps us) : RepAL R (caps.map .ept) us := by
  induction h with
  | nil => exact .nil
  | cons h _ ih => exact .cons h rfl ih
end

end Av
end Go.Proofs.Ytkdigdnacggknaa
/- Abstract states: hop is sound. Generic. -/
namespace Go.Proofs.Ytkdigdnacggknaa
open Go.RowKit
namespace Av

section
variable {P : Program} {F : Fr}
theorem capRefs_ok {σ : St} {γ : Gh} {a : Act} {w : World} (h : Rel F σ γ a w) {g : Nat → Option AV} : ∀ {l : List Operand} {cs : List (Nat × Nat)}, (∀ t y, Operand.tmp t ∈ l → g t = some y → look σ.slot t = some y) → capRefs g l = some cs →
    l.map a.eval = (cs.map fun c => Value.pointer (some ⟨γ.bx c.1, c.2, none⟩)) ∧ ∀ c ∈ cs, (look σ.box c.1).isSome
  | [], cs, _, he => by cases he; exact ⟨rfl, fun c hc => by cases hc⟩
  | x :: l, cs, hg, he => by
    unfold capRefs at he
    split at he
    · rename_i k off r h1 h2
      cases he
      obtain ⟨h3, h4⟩ := evo_ok h (fun t y ht => hg t y (by rw [ht]; exact List.mem_cons_self)) h1
      obtain ⟨h5, h6⟩ := capRefs_ok h (fun t y ht => hg t y (List.mem_cons_of_mem _ ht)) h2
      refine ⟨by rw [List.map_cons, List.map_cons, h5, show a.eval x = _ from h3], fun c hc => ?_⟩
      rcases List.mem_cons.1 hc with rfl | hc
      · exact h4 _ (by simp [AV.refs])
      · exact h6 c hc
    · cases he
theorem bound_ok {σ : St} {γ : Gh} {a : Act} {w : World} (h : Rel F σ γ a w) {g : Nat → Option AV} {x : Option Operand} {dflt n : Nat} (hg : ∀ o, x = some o → ∀ t y, o = .tmp t → g t = some y → look σ.slot t = some y) (hb : bound g dflt x n) :
    (x = none ∧ n = dflt) ∨ ∃ o k i, x = some o ∧ a.eval o = .int k i ∧ 0 ≤ i ∧ n = i.toNat := by
  cases x with
  | none => exact .inl ⟨rfl, hb⟩
  | some o =>
    obtain ⟨k, i, h1, h2, h3⟩ := hb
    exact .inr ⟨o, k, i, rfl, (evo_ok h (hg o rfl) h1).1, h2, h3⟩
theorem run_bounds (isSlice : Bool) (len cap : Nat) (lo hi : Option Value) (l h : Nat) (w : World) (hlo : (lo = none ∧ l = 0) ∨ ∃ k i, lo = some (.int k i) ∧ 0 ≤ i ∧ l = i.toNat) (hhi : (hi = none ∧ h = len) ∨ ∃ k i, hi = some (.int k i) ∧ 0 ≤ i ∧ h = i.toNat) (h1 : l ≤ h) (h2 : h ≤ cap) :
    (Instr.sliceBounds isSlice len cap lo hi none).run P w = .ok (l, h, cap) w := by
  rcases hlo with ⟨rfl, rfl⟩ | ⟨k, i, rfl, hi0, rfl⟩ <;> rcases hhi with ⟨rfl, rfl⟩ | ⟨k', j, rfl, hj0, rfl⟩
  · simp [Instr.sliceBounds]
  · simp [Instr.sliceBounds, Instr.sliceBound, asIntOf, hj0, show j ≤ (cap : Int) by omega]
  · have e1 : i ≤ ((h : Nat) : Int) := by omega
    simp [Instr.sliceBounds, Instr.sliceBound, asIntOf, hi0, e1]
  · have e1 : ¬ (max j 0 < i) := by omega
    simp [Instr.sliceBounds, Instr.sliceBound, asIntOf, hi0, hj0, show j ≤ (cap : Int) by omega, e1]
theorem rows_slice {R : Reader} {sz : Nat} {rows : List (List PV)} {u : Value} (h : RepP R (.sl sz rows) u) {l hh : Nat} (h1 : l ≤ hh) (h2 : hh ≤ rows.length) :
    ∃ A cap, u = .slice A rows.length cap ∧ rows.length ≤ cap ∧ RepP R (.sl sz ((rows.take hh).drop l)) (.slice (if cap = l then A else A.map (·.add (l * sz))) (hh - l) (cap - l)) := by
  cases h with
  | sl _ _ A cap f hsz hA hf hc =>
    refine ⟨A, cap, rfl, hc, ?_⟩
    have hlen : ((rows.take hh).drop l).length = hh - l := by simp; omega
    have hget : ∀ (k : Nat) (row : List PV), ((rows.take hh).drop l)[k]? = some row → rows[l + k]? = some row := fun k row hk => by
      rw [List.getElem?_drop, List.getElem?_take] at hk
      split at hk
      · exact hk
      · cases hk
    rw [← hlen]
    refine .sl sz _ _ _ (fun k j => f (l + k) j) (fun k row hk => hsz _ row (hget k row hk)) ?_ (fun k row j p hk hj => hf _ row j p (hget k row hk) hj) (by omega)
    rcases hA with h0 | ⟨b, off, rfl, hA⟩
    · left; rw [h0]; simp
    · by_cases he : (rows.take hh).drop l = []
      · exact .inl he
      · right
        by_cases hcl : cap = l
        · exfalso
          apply he
          apply List.eq_nil_of_length_eq_zero
          omega
        · refine ⟨b, off + l * sz, by rw [if_neg hcl, Option.map_some, Addr.add_mid], fun k row j p hk hj => ?_⟩
          have := hA (l + k) row j p (hget k row hk) hj
          rw [show off + l * sz + k * sz + j = off + (l + k) * sz + j by rw [Nat.add_mul]; omega]
          exact this

theorem RepCL.get {R : Reader} {ps : List CV} {us : List Value} (h : RepCL R ps us) : ∀ {i : Nat} {p : CV}, ps[i]? = some p → ∃ u, us[i]? = some u ∧ RepC R p u := by
  induction h with
  | nil => intro i p hp; simp at hp
  | cons h _ ih =>
    intro i p hp
    cases i with
    | zero => simp at hp; subst hp; exact ⟨_, rfl, h⟩
    | succ i => simpa using ih (by simpa using hp)
theorem call_ok {σ : St} {γ : Gh} {a : Act} {w : World} {o : Oper} {d : Nat} (h : Rel F σ γ a w) (hd : o.dst = some d) (hdn : d < F.n) {f : Operand} {args : Array Operand} {ats : Array TypeId} (ho : o.op = .call { callee := .value f, args := args, argTypes := ats })
    {g : Nat → Option AV} {bx : Nat → Option (List PV)} (hg : ∀ t y, Operand.tmp t ∈ o.op.operands.toList → g t = some y → look σ.slot t = some y) (hbx : ∀ k cs, bx k = some cs → look σ.box k = some cs)
    {fv : AV} {fid : Nat} {caps : List (List PV)} {avs avs' : List AV} {res : FRes} (h1 : evo g f = some fv) (h2 : snap bx fv = some (.fnv fid caps)) (h3 : evos g args.toList = some avs) (h4 : snaps bx avs = some avs') (h5 : FnOK P fid (avs' ++ caps.map AV.ept) res)
    (h6 : ((fv :: avs).all fun x => x.refs.isEmpty) = true ∨ (res.av.lit = true ∧ res.own = none)) (Q : Exit → Act → World → Prop) : o.wp P a w (Stp P F σ γ a w o d (σ.res d ⟨res.av, none, res.own⟩)) Q := by
  obtain ⟨henter, hcall⟩ := h5
  obtain ⟨g1, g2⟩ := evo_ok h (fun t y ht => hg t y (by rw [ho, ht]; simp [Op.operands, Call.operands])) h1
  obtain ⟨_, g3, g4⟩ := snap_ok h hbx g1 h2
  obtain ⟨us, gv, g5⟩ := g3
  have gA := evos_ok h (fun t y ht => hg t y (by rw [ho]; simp [Op.operands, Call.operands]; right; simpa using ht)) h3
  obtain ⟨g6, g7⟩ := snaps_ok h hbx gA h4
  have hrun : (execOp a.eval o).run P w = .ok (.enter fid (args.map a.eval ++ us.toArray)) w := by
    simp [execOp, ho, resolve, gv, Deferred.ofValue, invoke, run_callFunc henter]
  have hargs : args.map a.eval ++ us.toArray = (args.toList.map a.eval ++ us).toArray := by
    obtain ⟨l⟩ := args
    simp
  unfold Oper.wp
  rw [hrun, Oper.upon_enter, hargs, hd]
  by_cases hall : ((fv :: avs).all fun x => x.refs.isEmpty) = true
  · have hall' := hall
    rw [List.all_cons, Bool.and_eq_true] at hall'
    obtain ⟨us', gv', g8⟩ := g4 (by simpa using hall'.1)
    have : us' = us := by
      rw [gv] at gv'
      simpa using gv'.symm
    subst this
    refine (hcall w _ (fun p v hp => h.cell hp) _ ((g7 hall'.2).append g8.al)).mono ?_
    rintro e w1 ⟨u, rfl, hb, hr⟩
    obtain ⟨γ', hγ, hrel⟩ := h.call hb hdn hr
    exact ⟨γ', u, rfl, hb, fun k _ => hγ k, hrel, fun g S _ hs => by simp [src, ho] at hs⟩
  · obtain ⟨hl, ho'⟩ := h6.resolve_left hall
    refine (hcall w (fun p => w.cell? p) (fun _ _ hp => hp) _ (g6.append g5.al)).mono ?_
    rintro e w1 ⟨u, rfl, hb, hr⟩
    have hr' : ResRep (rdr F.R0 F.w0.heap.size σ γ w) w w1 res u := by
      obtain ⟨x, own⟩ := res
      subst ho'
      exact ⟨hr.1, lit_any hl hr.2⟩
    obtain ⟨γ', hγ, hrel⟩ := h.call hb hdn hr'
    exact ⟨γ', u, rfl, hb, fun k _ => hγ k, hrel, fun g S _ hs => by simp [src, ho] at hs⟩

/-- THE OPERATIONS. -/
theorem hop_sound {o : Oper} {K : HR → Prop} {g : Nat → Option AV} {bx : Nat → Option (List PV)} (hh : hop P g bx o K) {d : Nat} (hd : o.dst = some d) (hdn : d < F.n) :
    ∃ r, K r ∧ ∀ σ γ a w, Rel F σ γ a w → (∀ t y, Operand.tmp t ∈ o.op.operands.toList → g t = some y → look σ.slot t = some y) → (∀ k cs, bx k = some cs → look σ.box k = some cs) → (bx d = none → look σ.box d = none) →
      ∀ Q, o.wp P a w (Stp P F σ γ a w o d (σ.res d r)) Q := by
  unfold hop at hh
  split at hh
  case h_1 x ho =>
    obtain ⟨v, h1, h2⟩ := hh
    refine ⟨_, h2, fun σ γ a w h hg hbx hbd Q => ?_⟩
    obtain ⟨h3, h4⟩ := evo_ok h (fun t y ht => hg t y (by rw [ho]; simp [Op.operands, ht])) h1
    exact pure_ok h hd hdn (by simp [execOp, ho]) h3 h4
  case h_2 x ho =>
    obtain ⟨v, h1, h2⟩ := hh
    refine ⟨_, h2, fun σ γ a w h hg hbx hbd Q => ?_⟩
    obtain ⟨h3, h4⟩ := evo_ok h (fun t y ht => hg t y (by rw [ho]; simp [Op.operands, ht])) h1
    exact pure_ok h hd hdn (by simp [execOp, ho]) h3 h4
  case h_3 c x y ho =>
    obtain ⟨t, v, h0, h1, h2⟩ := hh
    refine ⟨_, h2, fun σ γ a w h hg hbx hbd Q => ?_⟩
    obtain ⟨h3, h4⟩ := evo_ok h (x := if t = true then x else y) (fun u y' ht => hg u y' (by rw [ho]; cases t <;> simp_all [Op.operands])) h1
    have h5 : a.eval c = .bool t := (evo_ok h (fun u y' ht => hg u y' (by rw [ho]; simp [Op.operands, ht])) h0).1
    refine pure_ok h hd hdn ?_ h3 h4
    simp only [execOp, ho, h5, asBool, Sem.run_bind, Sem.run_pure, Result.andThen_ok]
    cases t <;> rfl
  case h_4 T x ho =>
    obtain ⟨v, cs, d', h1, h2, h3, h4, h5⟩ := hh
    rw [hd] at h3
    cases h3
    refine ⟨_, h5, fun σ γ a w h hg hbx hbd Q => ?_⟩
    obtain ⟨h6, _⟩ := evo_ok h (fun t y ht => hg t y (by rw [ho]; simp [Op.operands, ht])) h1
    have h7 := avCells_ok h6 h2
    refine box_ok h hd hdn (hbd h4) (us := (a.eval x).cells.toList) (ty := T) (fun g => by simp [src, ho]) ?_ h7
    simp only [execOp, ho, Instr.box, newVar, newRow, newObj, Sem.run_bind, Sem.run, Sem.run_pure, Result.andThen_ok, Array.toArray_toList]
    rfl
  case h_5 T ho =>
    obtain ⟨z, d', h1, h2, h3, h4, h5⟩ := hh
    rw [hd] at h3
    cases h3
    refine ⟨_, h5, fun σ γ a w h hg hbx hbd Q => ?_⟩
    obtain ⟨i, hi, hz⟩ := info_some h1
    refine box_ok h hd hdn (hbd h4) (us := z.cells.toList) (ty := T) (fun g => by simp [src, ho]) ?_ ?_
    · simp only [execOp, ho, Instr.alloc, zeroValue, typeInfo, newVar, newRow, newObj, program, Sem.run_bind, Sem.run, Sem.run_pure, Result.andThen_ok, Array.toArray_toList, hi, hz]
      rfl
    · rw [List.all_eq_true] at h2
      refine RepL.of (by simp) fun i p u hp hu => ?_
      rw [List.getElem?_map, hu] at hp
      cases hp
      exact .v u (h2 u (List.mem_of_getElem? hu))
  case h_6 T x ho =>
    have hmem : ∀ {σ : St} {a : Act}, (∀ t y, Operand.tmp t ∈ o.op.operands.toList → g t = some y → look σ.slot t = some y) → ∀ t y, x = .tmp t → g t = some y → look σ.slot t = some y := fun hg t y ht => hg t y (by rw [ho]; simp [Op.operands, ht])
    split at hh
    · rename_i k off he
      obtain ⟨cs, h1, h2⟩ := hh
      obtain ⟨v, h3, h4, h5⟩ := loadK_ok h2
      refine ⟨_, h3, fun σ γ a w h hg hbx hbd Q => ?_⟩
      obtain ⟨h6, _⟩ := evo_ok h (hmem (a := a) hg) he
      obtain ⟨us, h7, h8⟩ := h.boxcells (hbx _ _ h1)
      obtain ⟨u, h9, h10⟩ := h5 _ γ.bx w (γ.bx k) off (us.drop off) (h7.drop off) (fun i u hu => h8 _ _ (by rw [List.getElem?_drop] at hu; exact hu))
      refine pure_ok h hd hdn ?_ h10 (fun k hk => by rw [h4] at hk; cases hk)
      simp only [execOp, ho, show a.eval x = _ from h6, Sem.run_bind, h9, Sem.run_pure, Result.andThen_ok]
    · rename_i row he
      obtain ⟨v, h3, h4, h5⟩ := loadK_ok hh
      refine ⟨_, h3, fun σ γ a w h hg hbx hbd Q => ?_⟩
      obtain ⟨h6, _⟩ := evo_ok h (hmem (a := a) hg) he
      obtain ⟨b, off, us, h7, h8, h9⟩ := h6
      obtain ⟨u, h10, h11⟩ := h5 _ γ.bx w b off us h8 (fun i u hu => h.cell (h9 i u hu))
      refine pure_ok h hd hdn ?_ h11 (fun k hk => by rw [h4] at hk; cases hk)
      simp only [execOp, ho, h7, Sem.run_bind, h10, Sem.run_pure, Result.andThen_ok]
    · cases hh
  case h_7 T x i ho =>
    obtain ⟨fs, f, n0, h1, h2, h3, h30, hh⟩ := hh
    obtain ⟨n, rfl⟩ : ∃ n, n0 = n + 1 := ⟨n0 - 1, by omega⟩
    have hmem : ∀ {σ : St} {a : Act}, (∀ t y, Operand.tmp t ∈ o.op.operands.toList → g t = some y → look σ.slot t = some y) → ∀ t y, x = .tmp t → g t = some y → look σ.slot t = some y := fun hg t y ht => hg t y (by rw [ho]; simp [Op.operands, ht])
    split at hh
    · rename_i k off he
      refine ⟨_, hh, fun σ γ a w h hg hbx hbd Q => ?_⟩
      obtain ⟨h6, h7⟩ := evo_ok h (hmem (a := a) hg) he
      refine pure_ok h hd hdn (u := .pointer (some ⟨γ.bx k, off + f.offset, none⟩)) ?_ rfl h7
      simp only [execOp, ho, show a.eval x = _ from h6, Sem.run_bind, run_field_at w T fs f i n _ _ h1 h2 h3, Sem.run_pure, Result.andThen_ok]
    · rename_i row he
      refine ⟨_, hh, fun σ γ a w h hg hbx hbd Q => ?_⟩
      obtain ⟨h6, _⟩ := evo_ok h (hmem (a := a) hg) he
      obtain ⟨b, off, us, h7, h8, h9⟩ := h6
      refine pure_ok h hd hdn (u := .pointer (some ⟨b, off + f.offset, none⟩)) ?_ ⟨b, off + f.offset, us.drop f.offset, rfl, h8.drop _, fun j y hy => ?_⟩ (fun k hk => by cases hk)
      · simp only [execOp, ho, h7, Sem.run_bind, run_field_at w T fs f i n _ _ h1 h2 h3, Sem.run_pure, Result.andThen_ok]
      · rw [List.getElem?_drop] at hy
        rw [Nat.add_assoc]
        exact h9 _ _ hy
    · cases hh
  case h_8 T x i ho =>
    obtain ⟨fs, f, dd, n, xs, h1, h2, h3, h4, h5, hh⟩ := hh
    have hev : ∀ {σ γ a w}, Rel F σ γ a w → (∀ t y, Operand.tmp t ∈ o.op.operands.toList → g t = some y → look σ.slot t = some y) → ∃ us, a.eval x = .agg us.toArray ∧ RepL (rdr F.R0 F.w0.heap.size σ γ w) xs us := fun h hg =>
      (evo_ok h (fun t y ht => hg t y (by rw [ho]; simp [Op.operands, ht])) h5).1
    by_cases hrow : dd.isRow = true
    · rw [if_pos hrow] at hh
      refine ⟨_, hh, fun σ γ a w h hg hbx hbd Q => ?_⟩
      obtain ⟨us, h6, h7⟩ := hev h hg
      refine pure_ok h hd hdn (u := .agg ((us.drop f.offset).take n).toArray) ?_ ⟨_, rfl, (h7.drop _).take n⟩ (fun k hk => by cases hk)
      simp [execOp, ho, h6, Instr.field, run_underlying h1, h2, asAgg, (run_part (P := P) w f.type dd n us f.offset h3 h4).1 hrow]
    · rw [if_neg hrow] at hh
      obtain ⟨p, h6, hh⟩ := hh
      refine ⟨_, hh, fun σ γ a w h hg hbx hbd Q => ?_⟩
      obtain ⟨us, h7, h8⟩ := hev h hg
      obtain ⟨u, h9, h10⟩ := h8.get h6
      refine pure_ok h hd hdn (u := u) ?_ h10.av (fun k hk => by cases p <;> cases hk)
      simp [execOp, ho, h7, Instr.field, run_underlying h1, h2, asAgg, (run_part (P := P) w f.type dd n us f.offset h3 h4).2 (by simpa using hrow) u h9]
  case h_9 T x ix ho =>
    obtain ⟨k, i, h1, h2, hh⟩ := hh
    have hix : ∀ {σ γ a w}, Rel F σ γ a w → (∀ t y, Operand.tmp t ∈ o.op.operands.toList → g t = some y → look σ.slot t = some y) → a.eval ix = .int k i := fun h hg =>
      (evo_ok h (fun t y ht => hg t y (by rw [ho]; simp [Op.operands, ht])) h1).1
    have hmem : ∀ {σ : St} {a : Act}, (∀ t y, Operand.tmp t ∈ o.op.operands.toList → g t = some y → look σ.slot t = some y) → ∀ t y, x = .tmp t → g t = some y → look σ.slot t = some y := fun hg t y ht => hg t y (by rw [ho]; simp [Op.operands, ht])
    split at hh
    · rename_i e hu
      obtain ⟨sz, rows, row, h3, h4, h5, hh⟩ := hh
      refine ⟨_, hh, fun σ γ a w h hg hbx hbd Q => ?_⟩
      obtain ⟨h6, _⟩ := evo_ok h (hmem (a := a) hg) h3
      have h6' : RepP _ (.sl sz rows) (a.eval x) := h6
      obtain ⟨j, hj, hs⟩ := info_some h4
      have hlt : i.toNat < rows.length := (List.getElem?_eq_some_iff.1 h5).1
      cases hv : a.eval x with
      | slice A len cap =>
        rw [hv] at h6'
        cases h6' with
        | sl _ _ _ _ f hsz hA hf hc =>
          rcases hA with h0 | ⟨b, off, rfl, hA⟩
          · rw [h0] at h5; simp at h5
          · have hrl := hsz _ _ h5
            refine pure_ok h hd hdn (u := .pointer (some ⟨b, off + i.toNat * sz, none⟩)) ?_ ⟨b, off + i.toNat * sz, (List.range row.length).map (f i.toNat), rfl, ?_, fun q y hy => ?_⟩ (fun k hk => by cases hk)
            · simp [execOp, ho, hv, hix h hg, Instr.indexAt, run_underlying hu, asIntOf, h2, show i < (rows.length : Int) by omega, sizeOf, typeInfo, hj, hs, Addr.add_lit]
            · refine RepL.of (by simp) fun q p u hp hu' => ?_
              have hq : q < row.length := (List.getElem?_eq_some_iff.1 hp).1
              simp [hq] at hu'
              subst hu'
              exact hf _ row q p h5 hp
            · have hq : q < row.length := by
                rcases Nat.lt_or_ge q row.length with h' | h'
                · exact h'
                · rw [List.getElem?_eq_none (by simpa using h')] at hy; cases hy
              simp [hq] at hy
              subst hy
              exact hA _ row q row[q] h5 (List.getElem?_eq_getElem hq)
      | bool => rw [hv] at h6'; cases h6'
      | int => rw [hv] at h6'; cases h6'
      | float => rw [hv] at h6'; cases h6'
      | complex => rw [hv] at h6'; cases h6'
      | string => rw [hv] at h6'; cases h6'
      | pointer => rw [hv] at h6'; cases h6'
      | map => rw [hv] at h6'; cases h6'
      | chan => rw [hv] at h6'; cases h6'
      | func => rw [hv] at h6'; cases h6'
      | nilFunc => rw [hv] at h6'; cases h6'
      | iface => rw [hv] at h6'; cases h6'
      | nilIface => rw [hv] at h6'; cases h6'
      | agg => rw [hv] at h6'; cases h6'
      | tuple => rw [hv] at h6'; cases h6'
    · rename_i n e hu
      obtain ⟨sz, h4, h5, hh⟩ := hh
      obtain ⟨j, hj, hs⟩ := info_some h4
      split at hh
      · rename_i k' off he
        refine ⟨_, hh, fun σ γ a w h hg hbx hbd Q => ?_⟩
        obtain ⟨h6, h7⟩ := evo_ok h (hmem (a := a) hg) he
        refine pure_ok h hd hdn (u := .pointer (some ⟨γ.bx k', off + i.toNat * sz, none⟩)) ?_ rfl h7
        simp [execOp, ho, show a.eval x = _ from h6, hix h hg, Instr.indexAt, run_underlying hu, asIntOf, Instr.sureAddr, h2, h5, sizeOf, typeInfo, hj, hs, Addr.add_lit]
      · rename_i row he
        refine ⟨_, hh, fun σ γ a w h hg hbx hbd Q => ?_⟩
        obtain ⟨h6, _⟩ := evo_ok h (hmem (a := a) hg) he
        obtain ⟨b, off, us, h7, h8, h9⟩ := h6
        refine pure_ok h hd hdn (u := .pointer (some ⟨b, off + i.toNat * sz, none⟩)) ?_ ⟨b, off + i.toNat * sz, us.drop (i.toNat * sz), rfl, h8.drop _, fun j y hy => ?_⟩ (fun k hk => by cases hk)
        · simp [execOp, ho, h7, hix h hg, Instr.indexAt, run_underlying hu, asIntOf, Instr.sureAddr, h2, h5, sizeOf, typeInfo, hj, hs, Addr.add_lit]
        · rw [List.getElem?_drop] at hy
          rw [Nat.add_assoc]
          exact h9 _ _ hy
      · cases hh
    · cases hh
  case h_10 T x lo hi mx ho =>
    obtain ⟨rfl, hh⟩ := hh
    have hmem : ∀ {σ : St} {a : Act}, (∀ t y, Operand.tmp t ∈ o.op.operands.toList → g t = some y → look σ.slot t = some y) → ∀ t y, x = .tmp t → g t = some y → look σ.slot t = some y := fun hg t y ht => hg t y (by rw [ho]; simp [Op.operands, ht])
    have hlo : ∀ {σ : St} {a : Act}, (∀ t y, Operand.tmp t ∈ o.op.operands.toList → g t = some y → look σ.slot t = some y) → ∀ z, lo = some z → ∀ t y, z = .tmp t → g t = some y → look σ.slot t = some y := fun hg z hz t y ht => hg t y (by rw [ho, hz, ht]; simp [Op.operands])
    have hhi : ∀ {σ : St} {a : Act}, (∀ t y, Operand.tmp t ∈ o.op.operands.toList → g t = some y → look σ.slot t = some y) → ∀ z, hi = some z → ∀ t y, z = .tmp t → g t = some y → look σ.slot t = some y := fun hg z hz t y ht => hg t y (by rw [ho, hz, ht]; simp [Op.operands])
    have val : ∀ {a : Act} {q : Option Operand} {n m : Nat}, ((q = none ∧ n = m) ∨ ∃ o k i, q = some o ∧ a.eval o = .int k i ∧ 0 ≤ i ∧ n = i.toNat) → (q.map a.eval = none ∧ n = m) ∨ ∃ k i, q.map a.eval = some (.int k i) ∧ 0 ≤ i ∧ n = i.toNat := fun hq => by
      rcases hq with ⟨rfl, rfl⟩ | ⟨o, k, i, rfl, h1, h2, h3⟩
      · exact .inl ⟨rfl, rfl⟩
      · exact .inr ⟨k, i, by simp [h1], h2, h3⟩
    split at hh
    · rename_i e hu
      obtain ⟨sz, rows, l, hI, h1, h2, h3, h4, h5, h6, hh⟩ := hh
      refine ⟨_, hh, fun σ γ a w h hg hbx hbd Q => ?_⟩
      obtain ⟨h7, _⟩ := evo_ok h (hmem (a := a) hg) h1
      obtain ⟨A, cap, h8, h9, h10⟩ := rows_slice h7 h5 h6
      have hb := run_bounds (P := P) true rows.length cap (lo.map a.eval) (hi.map a.eval) l hI w (val (bound_ok h (hlo (a := a) hg) h3)) (val (bound_ok h (hhi (a := a) hg) h4)) h5 (Nat.le_trans h6 h9)
      obtain ⟨j, hj, hs⟩ := info_some h2
      refine pure_ok h hd hdn (u := .slice (if cap = l then A else A.map (·.add (l * sz))) (hI - l) (cap - l)) ?_ h10 (fun k hk => by cases hk)
      simp [execOp, ho, h8, Instr.sliceAt, Instr.slice, run_underlying hu, hb, sizeOf, typeInfo, hj, hs]
    · rename_i hu
      obtain ⟨s, l, hI, h1, h3, h4, h5, h6, hh⟩ := hh
      refine ⟨_, hh, fun σ γ a w h hg hbx hbd Q => ?_⟩
      obtain ⟨h7, _⟩ := evo_ok h (hmem (a := a) hg) h1
      have hb := run_bounds (P := P) false s.size s.size (lo.map a.eval) (hi.map a.eval) l hI w (val (bound_ok h (hlo (a := a) hg) h3)) (val (bound_ok h (hhi (a := a) hg) h4)) h5 h6
      refine pure_ok h hd hdn (u := .string (s.extract l hI)) ?_ rfl (fun k hk => by cases hk)
      simp [execOp, ho, show a.eval x = _ from h7, Instr.sliceAt, Instr.slice, run_underlying hu, hb]
    · cases hh
  case h_11 T x ix ho =>
    obtain ⟨k, i, s, c, h1, h2, h3, h4, h5, hh⟩ := hh
    refine ⟨_, hh, fun σ γ a w h hg hbx hbd Q => ?_⟩
    have h6 : a.eval ix = .int k i := (evo_ok h (fun t y ht => hg t y (by rw [ho]; simp [Op.operands, ht])) h1).1
    have h7 : a.eval x = .string s := (evo_ok h (fun t y ht => hg t y (by rw [ho]; simp [Op.operands, ht])) h4).1
    refine pure_ok h hd hdn (u := .int .u8 (c.toNat : Nat)) ?_ rfl (fun k hk => by cases hk)
    have h8 : s[i.toNat]? = some c := h5
    simp [execOp, ho, h6, h7, Instr.index, run_underlying h3, asIntOf, h2, h8]
  case h_12 op T x y yT ho =>
    obtain ⟨u, v, r, h1, h2, h3, hh⟩ := hh
    refine ⟨_, hh, fun σ γ a w h hg hbx hbd Q => ?_⟩
    have h6 : a.eval x = u := (evo_ok h (fun t z ht => hg t z (by rw [ho]; simp [Op.operands, ht])) h1).1
    have h7 : a.eval y = v := (evo_ok h (fun t z ht => hg t z (by rw [ho]; simp [Op.operands, ht])) h2).1
    refine pure_ok h hd hdn (u := r) ?_ rfl (fun k hk => by cases hk)
    simp only [execOp, ho, h6, h7, Sem.run_bind (f := fun z => pure (Next.value z)), abin_ok h3, Sem.run_pure, Result.andThen_ok]
  case h_13 op T x ho =>
    obtain ⟨u, r, h1, h3, hh⟩ := hh
    refine ⟨_, hh, fun σ γ a w h hg hbx hbd Q => ?_⟩
    have h6 : a.eval x = u := (evo_ok h (fun t z ht => hg t z (by rw [ho]; simp [Op.operands, ht])) h1).1
    refine pure_ok h hd hdn (u := r) ?_ rfl (fun k hk => by cases hk)
    simp only [execOp, ho, h6, Sem.run_bind, aun_ok h3, Sem.run_pure, Result.andThen_ok]
  case h_14 T x ho =>
    obtain ⟨u, h1, h3, hh⟩ := hh
    refine ⟨_, hh, fun σ γ a w h hg hbx hbd Q => ?_⟩
    have h6 : a.eval x = u := (evo_ok h (fun t z ht => hg t z (by rw [ho]; simp [Op.operands, ht])) h1).1
    refine pure_ok h hd hdn (u := .iface T u) ?_ rfl (fun k hk => by cases hk)
    simp only [execOp, ho, h6, Sem.run_bind, run_makeInterface w T u h3, Sem.run_pure, Result.andThen_ok]
  case h_15 fn first caps ho =>
    obtain ⟨f, cs, rfl, rfl, h1, hh⟩ := hh
    refine ⟨_, hh, fun σ γ a w h hg hbx hbd Q => ?_⟩
    obtain ⟨h6, h7⟩ := capRefs_ok h (fun t y ht => hg t y (by rw [ho]; simp [Op.operands]; simpa using ht)) h1
    refine pure_ok h hd hdn (u := .func (.func f) #[] (caps.map a.eval)) ?_ ?_ ?_
    · simp [execOp, ho, Instr.makeFunc]
    · show _ = Value.func (.func f) #[] _
      rw [← h6, ← List.map_toArray, Array.toArray_toList]
    · intro k hk
      obtain ⟨c, hc, rfl⟩ := List.mem_map.1 hk
      exact h7 c hc
  case h_16 x i ho =>
    obtain ⟨vs, c, h1, h2, hh⟩ := hh
    refine ⟨_, hh, fun σ γ a w h hg hbx hbd Q => ?_⟩
    obtain ⟨⟨us, h3, h4⟩, _⟩ := evo_ok h (fun t z ht => hg t z (by rw [ho]; simp [Op.operands, ht])) h1
    have hget : ∃ u, us[i]? = some u ∧ RepC (rdr F.R0 F.w0.heap.size σ γ w) c u := by
      exact h4.get h2
    obtain ⟨u, h5, h6⟩ := hget
    refine pure_ok h hd hdn (u := u) ?_ h6.av (fun k hk => by cases c with | c p => (cases p <;> cases hk) | g => cases hk)
    simp [execOp, ho, h3, Instr.extract, h5]
  case h_17 c ho =>
    unfold hopCall at hh
    split at hh
    · rename_i b hb
      unfold hopB at hh
      obtain ⟨callee, args, ats⟩ := c
      dsimp only at hb hh
      subst hb
      split at hh
      · obtain ⟨x, T, ha, hT, hh⟩ := hh
        obtain rfl := arr_of ha
        obtain rfl := arr_of hT
        have hmem : ∀ {σ : St} {a : Act}, (∀ t y, Operand.tmp t ∈ o.op.operands.toList → g t = some y → look σ.slot t = some y) → ∀ t y, x = .tmp t → g t = some y → look σ.slot t = some y := fun hg t y ht => hg t y (by rw [ho]; simp [Op.operands, Call.operands, ht])
        rcases hh with ⟨sz, rows, e, h1, h2, hh⟩ | ⟨s, h1, h2, hh⟩ | ⟨A, n, c, e, h1, h2, hh⟩
        · refine ⟨_, hh, fun σ γ a w h hg hbx hbd Q => ?_⟩
          obtain ⟨h3, _⟩ := evo_ok h (hmem (a := a) hg) h1
          obtain ⟨A, cap, h4, _⟩ := rows_slice h3 (Nat.zero_le 0) (Nat.zero_le _)
          refine pure_ok h hd hdn (u := .int .i64 rows.length) ?_ rfl (fun k hk => by cases hk)
          simp [execOp, ho, resolve, invoke, builtin, h4, Builtin.len_, run_underlying h2, goInt]
        · refine ⟨_, hh, fun σ γ a w h hg hbx hbd Q => ?_⟩
          obtain ⟨h3, _⟩ := evo_ok h (hmem (a := a) hg) h1
          refine pure_ok h hd hdn (u := .int .i64 s.size) ?_ rfl (fun k hk => by cases hk)
          simp [execOp, ho, resolve, invoke, builtin, show a.eval x = _ from h3, Builtin.len_, run_underlying h2, goInt]
        · refine ⟨_, hh, fun σ γ a w h hg hbx hbd Q => ?_⟩
          obtain ⟨h3, _⟩ := evo_ok h (hmem (a := a) hg) h1
          refine pure_ok h hd hdn (u := .int .i64 n) ?_ rfl (fun k hk => by cases hk)
          simp [execOp, ho, resolve, invoke, builtin, show a.eval x = _ from h3, Builtin.len_, run_underlying h2, goInt]
      · obtain ⟨x, y, k, u, v, ha, h1, h2, hh⟩ := hh
        obtain rfl := arr_of ha
        refine ⟨_, hh, fun σ γ a w h hg hbx hbd Q => ?_⟩
        have h6 : a.eval x = .int k u := (evo_ok h (fun t z ht => hg t z (by rw [ho]; simp [Op.operands, Call.operands, ht])) h1).1
        have h7 : a.eval y = .int k v := (evo_ok h (fun t z ht => hg t z (by rw [ho]; simp [Op.operands, Call.operands, ht])) h2).1
        refine pure_ok h hd hdn (u := .int k (if u < v then v else u)) ?_ rfl (fun k hk => by cases hk)
        simp [execOp, ho, resolve, invoke, builtin, h6, h7, run_max_int2]
      · obtain ⟨x, y, k, u, v, ha, h1, h2, hh⟩ := hh
        obtain rfl := arr_of ha
        refine ⟨_, hh, fun σ γ a w h hg hbx hbd Q => ?_⟩
        have h6 : a.eval x = .int k u := (evo_ok h (fun t z ht => hg t z (by rw [ho]; simp [Op.operands, Call.operands, ht])) h1).1
        have h7 : a.eval y = .int k v := (evo_ok h (fun t z ht => hg t z (by rw [ho]; simp [Op.operands, Call.operands, ht])) h2).1
        refine pure_ok h hd hdn (u := .int k (if v < u then v else u)) ?_ rfl (fun k hk => by cases hk)
        simp [execOp, ho, resolve, invoke, builtin, h6, h7, run_min_int2]
      · cases hh
    · rename_i f hf
      obtain ⟨callee, args, ats⟩ := c
      dsimp only at hf hh
      subst hf
      obtain ⟨fv, fid, caps, avs, avs', res, h1, h2, h3, h4, h5, h6, hh⟩ := hh
      exact ⟨_, hh, fun σ γ a w h hg hbx hbd Q => call_ok h hd hdn ho hg hbx h1 h2 h3 h4 h5 h6 Q⟩
    · cases hh
  case h_18 x ho =>
    obtain ⟨v, h1, hp, hh⟩ := hh
    refine ⟨_, hh, fun σ γ a w h hg hbx hbd Q => ?_⟩
    obtain ⟨h3, h4⟩ := evo_ok h (fun t y ht => hg t y (by rw [ho]; simp [Op.operands, ht])) h1
    refine pure_ok h hd hdn (u := a.eval x) ?_ h3 h4
    have hptr : ∃ p, a.eval x = .pointer (some p) := by
      cases v with
      | ref k off => exact ⟨_, h3⟩
      | ept row => obtain ⟨b, off, us, e, _⟩ := h3; exact ⟨_, e⟩
      | v y =>
        cases y with
        | pointer q =>
          cases q with
          | some p => exact ⟨p, h3⟩
          | none => cases hp
        | _ => cases hp
      | _ => cases hp
    obtain ⟨p, hq⟩ := hptr
    simp [execOp, ho, hq]
  case h_19 => cases hh
end

end Av
end Go.Proofs.Ytkdigdnacggknaa
