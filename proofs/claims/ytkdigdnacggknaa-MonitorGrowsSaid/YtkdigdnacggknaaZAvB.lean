import Derived.Test.YtkdigdnacggknaaZAvE
/- Abstract states: structs and slices written out, made slices, conversions. Generic. -/
namespace Go.Proofs.Ytkdigdnacggknaa
open Go.RowKit
namespace Av

def lfill {α : Type} (place : Nat → Option (Nat × Nat)) : List α → List (Nat × List α) → Option (List α)
  | cs, [] => some cs
  | cs, (i, xs) :: rest => match place i with
    | none => none
    | some (off, sz) => if xs.length ≠ sz ∨ cs.length < off + xs.length then none else lfill place (setAt cs off xs) rest
theorem foldl_set (off : Nat) : ∀ (l : List Value) (n : Nat) (cells : Array Value), off + n + l.length ≤ cells.size →
    ((l.zipIdx n).foldl (fun (cs : Array Value) (p : Value × Nat) => cs.setIfInBounds (off + p.2) p.1) cells).toList = setAt cells.toList (off + n) l
  | [], n, cells, _ => by simp [setAt]
  | v :: l, n, cells, h => by
    simp only [List.length_cons] at h
    rw [List.zipIdx_cons, List.foldl_cons, foldl_set off l (n + 1) _ (by simp; omega)]
    unfold setAt
    have ho : off + n < cells.toList.length := by simp; omega
    simp only [Array.toList_setIfInBounds]
    rw [show off + (n + 1) = off + n + 1 by omega, List.take_set, List.drop_set, List.take_succ_eq_append_getElem ho, if_pos (by omega), List.set_append_right _ _ (by simp; omega)]
    simp [Nat.min_eq_left (Nat.le_of_lt (by simpa using ho)), Nat.add_assoc, Nat.add_comm 1]
theorem fill_eq (place : Nat → Option (Nat × Nat)) : ∀ (ps : List (Nat × Value)) (cells : Array Value), Instr.fill place cells ps = (lfill place cells.toList (ps.map fun p => (p.1, p.2.cells.toList))).map List.toArray
  | [], cells => by simp [Instr.fill, lfill]
  | (i, v) :: ps, cells => by
    unfold Instr.fill
    rw [List.map_cons]
    unfold lfill
    dsimp only
    cases place i with
    | none => rfl
    | some q =>
      obtain ⟨off, sz⟩ := q
      dsimp only
      by_cases hc : v.cells.toList.length ≠ sz ∨ cells.toList.length < off + v.cells.toList.length
      · rw [if_pos hc, if_pos]
        · rfl
        · simpa using hc
      · rw [if_neg hc, if_neg (by simpa using hc), fill_eq place ps]
        congr 2
        have hlen : off + 0 + v.cells.toList.length ≤ cells.size := by
          have := not_or.1 hc
          simp at this ⊢
          omega
        have := foldl_set off v.cells.toList 0 cells hlen
        rw [Nat.add_zero] at this
        rw [← this]
        congr 1
        rw [← Array.foldl_toList]
        simp
def partsC (g : Nat → Option AV) : List (Nat × Operand) → Option (List (Nat × List PV))
  | [] => some []
  | (i, x) :: l => match (evo g x).bind avCells, partsC g l with
    | some xs, some r => some ((i, xs) :: r)
    | _, _ => none
inductive RepParts (R : Reader) : List (Nat × List PV) → List (Nat × List Value) → Prop
  | nil : RepParts R [] []
  | cons {i : Nat} {xs : List PV} {us : List Value} {l : List (Nat × List PV)} {r : List (Nat × List Value)} (h : RepL R xs us) (t : RepParts R l r) : RepParts R ((i, xs) :: l) ((i, us) :: r)
theorem lfill_rep {R : Reader} {place : Nat → Option (Nat × Nat)} : ∀ {ps : List (Nat × List PV)} {qs : List (Nat × List Value)} {cs cs' : List PV} {us : List Value}, RepParts R ps qs → RepL R cs us → lfill place cs ps = some cs' → ∃ us', lfill place us qs = some us' ∧ RepL R cs' us'
  | [], _, cs, cs', us, h, hc, hf => by
    cases h
    cases hf
    exact ⟨us, rfl, hc⟩
  | (i, xs) :: ps, _, cs, cs', us, h, hc, hf => by
    cases h with
    | cons hx ht =>
      rename_i vs r
      unfold lfill at hf ⊢
      cases hp : place i with
      | none => rw [hp] at hf; cases hf
      | some q =>
        obtain ⟨off, sz⟩ := q
        rw [hp] at hf
        dsimp only at hf ⊢
        rw [hx.length, hc.length]
        by_cases hq : xs.length ≠ sz ∨ cs.length < off + xs.length
        · rw [if_pos hq] at hf; cases hf
        · rw [if_neg hq] at hf ⊢
          exact lfill_rep ht (hc.setAt hx off) hf
theorem partsC_ok {F : Fr} {σ : St} {γ : Gh} {a : Act} {w : World} (h : Rel F σ γ a w) {g : Nat → Option AV} : ∀ {l : List (Nat × Operand)} {ps : List (Nat × List PV)}, (∀ t y i, (i, Operand.tmp t) ∈ l → g t = some y → look σ.slot t = some y) → partsC g l = some ps →
    RepParts (rdr F.R0 F.w0.heap.size σ γ w) ps ((l.map fun p => (p.1, a.eval p.2)).map fun p => (p.1, p.2.cells.toList))
  | [], ps, _, he => by cases he; exact .nil
  | (i, x) :: l, ps, hg, he => by
    unfold partsC at he
    split at he
    · rename_i xs r h1 h2
      cases he
      cases hx : evo g x with
      | none => rw [hx] at h1; cases h1
      | some v =>
        rw [hx] at h1
        obtain ⟨h3, _⟩ := evo_ok h (fun t y ht => hg t y i (by rw [ht]; exact List.mem_cons_self)) hx
        exact .cons (avCells_ok h3 h1) (partsC_ok h (fun t y j ht => hg t y j (List.mem_cons_of_mem _ ht)) h2)
    · cases he
def placesB (P : Program) (fs : Array Field) (i : Nat) : Option (Nat × Nat) := (fs[i]?).bind fun f => (P.info? f.type).map fun t => (f.offset, t.size)
theorem run_mapM {α β : Type} {P : Program} (f : α → Sem β) (r : α → β) : ∀ (l : List α) (w : World), (∀ x ∈ l, (f x).run P w = .ok (r x) w) → (l.mapM f).run P w = .ok (l.map r) w
  | [], w, _ => by simp
  | x :: l, w, h => by
    rw [List.mapM_cons, Sem.run_bind, h x List.mem_cons_self, Result.andThen_ok, Sem.run_bind, run_mapM f r l w (fun y hy => h y (List.mem_cons_of_mem _ hy))]
    rfl

/-- .. and structs and slices that are written out, conversions. -/
def hopx (P : Program) (g : Nat → Option AV) (bx : Nat → Option (List PV)) (o : Oper) (K : HR → Prop) : Prop :=
  match o.op with
  | .build T ps => ∃ z qs cs, (P.info? T).map (·.zero) = some (some z) ∧ (z.cells.toList.all (·.oneCell')) = true ∧ partsC g ps.toList = some qs ∧ (match P.underlying T with
      | some (.struct fs) => (fs.all fun f => (P.info? f.type).isSome) = true ∧ lfill (placesB P fs) (z.cells.toList.map .v) qs = some cs
      | some (.array _ e) => ∃ sz, (P.info? e).map (·.size) = some sz ∧ lfill (fun i => some (i * sz, sz)) (z.cells.toList.map .v) qs = some cs
      | _ => False) ∧ K ⟨.agg cs, none, none⟩
  | .buildSlice T n ps => ∃ e sz z qs, P.underlying T = some (.slice e) ∧ (P.info? e).map (·.size) = some sz ∧ 0 < sz ∧ (P.info? e).map (·.zero) = some (some z) ∧ z.cells.size = sz ∧ n * sz ≤ 16777216 ∧ partsC g ps.toList = some qs ∧
      qs.map Prod.fst = List.range n ∧ (qs.all fun q => decide (q.2.length = sz)) = true ∧ K ⟨.sl sz (qs.map Prod.snd), none, some e⟩
  | .convert S D x => ∃ u, evo g x = some (.v u) ∧ (P.underlying S).isSome = true ∧ (match u, P.underlying D with
      | .int _ n, some (.int k) => K ⟨.v (.int k (k.wrap n)), none, none⟩
      | .string s, some .string => K ⟨.v (.string s), none, none⟩
      | _, _ => False)
  | .binOp op T x y _ => hop P g bx o K ∨ ∃ xs ys as bs n b, evo g x = some (.agg xs) ∧ evo g y = some (.agg ys) ∧ intsOf xs = some as ∧ intsOf ys = some bs ∧ intT P 8 T = some n ∧ as.length = n ∧ bs.length = n ∧ (match P.underlying T with | some (.struct _) => true | _ => false) = true ∧ P.eqGuardType P.depth T = false ∧
      (match op with | .eql => b = (as == bs) | .neq => b = !(as == bs) | _ => False) ∧ K ⟨.v (.bool b), none, none⟩
  | _ => hop P g bx o K
theorem setAt_app {α : Type} {pre x rest : List α} : setAt (pre ++ rest) pre.length x = (pre ++ x) ++ rest.drop x.length := by
  unfold setAt
  rw [List.take_left, List.drop_append, List.drop_eq_nil_of_le (by omega), List.nil_append, Nat.add_sub_cancel_left]
theorem lfill_seq {α : Type} (sz : Nat) : ∀ (qs : List (Nat × List α)) (k : Nat) (pre rest : List α), qs.map Prod.fst = List.range' k qs.length → pre.length = k * sz → rest.length = qs.length * sz → (∀ q ∈ qs, q.2.length = sz) →
    lfill (fun i => some (i * sz, sz)) (pre ++ rest) qs = some (pre ++ (qs.map Prod.snd).flatten)
  | [], k, pre, rest, _, _, hr, _ => by
    have : rest = [] := List.eq_nil_of_length_eq_zero (by simpa using hr)
    subst this
    simp [lfill]
  | (i, x) :: qs, k, pre, rest, hf, hp, hr, hl => by
    rw [List.map_cons, List.length_cons, List.range'_succ] at hf
    obtain ⟨h1, h2⟩ := List.cons.inj hf
    have hx : x.length = sz := hl _ List.mem_cons_self
    simp only [List.length_cons, Nat.add_mul, Nat.one_mul] at hr
    have h1' : i = k := h1
    subst h1'
    unfold lfill
    dsimp only
    rw [if_neg (by rw [List.length_append, hp, hr, hx]; omega), ← hp, setAt_app, lfill_seq sz qs (i + 1) (pre ++ x) (rest.drop x.length) h2 (by rw [List.length_append, hp, hx, Nat.add_mul]; omega) (by rw [List.length_drop, hr, hx]; omega) (fun q hq => hl q (List.mem_cons_of_mem _ hq))]
    simp
theorem flatten_get {α : Type} {sz : Nat} : ∀ {l : List (List α)} {k j : Nat} {row : List α} {p : α}, (∀ x ∈ l, x.length = sz) → l[k]? = some row → row[j]? = some p → l.flatten[k * sz + j]? = some p
  | [], k, j, row, p, _, hk, _ => by simp at hk
  | x :: l, k, j, row, p, h, hk, hj => by
    have hx := h x List.mem_cons_self
    rw [List.flatten_cons]
    cases k with
    | zero =>
      simp at hk
      subst hk
      rw [Nat.zero_mul, Nat.zero_add, List.getElem?_append_left (List.getElem?_eq_some_iff.1 hj).1]
      exact hj
    | succ k =>
      rw [List.getElem?_append_right (by rw [hx, Nat.add_mul]; omega), hx, show (k + 1) * sz + j - sz = k * sz + j by rw [Nat.add_mul]; omega]
      exact flatten_get (fun y hy => h y (List.mem_cons_of_mem _ hy)) (by simpa using hk) hj
theorem RepParts.fst {R : Reader} {ps : List (Nat × List PV)} {qs : List (Nat × List Value)} (h : RepParts R ps qs) : qs.map Prod.fst = ps.map Prod.fst := by
  induction h with
  | nil => rfl
  | cons _ _ ih => simp [ih]
theorem RepParts.length {R : Reader} {ps : List (Nat × List PV)} {qs : List (Nat × List Value)} (h : RepParts R ps qs) : qs.length = ps.length := by
  induction h with
  | nil => rfl
  | cons _ _ ih => simp [ih]
theorem RepParts.get {R : Reader} {ps : List (Nat × List PV)} {qs : List (Nat × List Value)} (h : RepParts R ps qs) : ∀ {k : Nat} {row : List PV}, (ps.map Prod.snd)[k]? = some row → ∃ us, (qs.map Prod.snd)[k]? = some us ∧ RepL R row us := by
  induction h with
  | nil => intro k row hk; simp at hk
  | cons h _ ih =>
    intro k row hk
    cases k with
    | zero => simp at hk; subst hk; exact ⟨_, rfl, h⟩
    | succ k => simpa using ih (by simpa using hk)
theorem RepParts.all {R : Reader} {sz : Nat} {ps : List (Nat × List PV)} {qs : List (Nat × List Value)} (h : RepParts R ps qs) (hl : ∀ q ∈ ps, q.2.length = sz) : ∀ q ∈ qs, q.2.length = sz := by
  induction h with
  | nil => intro q hq; cases hq
  | cons h _ ih =>
    intro q hq
    rcases List.mem_cons.1 hq with rfl | hq
    · have := hl _ List.mem_cons_self
      exact h.length.trans this
    · exact ih (fun q hq => hl q (List.mem_cons_of_mem _ hq)) q hq
section
variable {P : Program} {F : Fr}
/-- A slice in a new block. -/
theorem new_ok {σ : St} {γ : Gh} {a : Act} {w : World} {o : Oper} {Q : Exit → Act → World → Prop} {d : Nat} (h : Rel F σ γ a w) (hd : o.dst = some d) (hdn : d < F.n) {sz n cap : Nat} {rows : List (List PV)} {e : TypeId} {cells : Array Value} (hsrc : ∀ g, src P g o = none)
    (hrun : (execOp a.eval o).run P w = .ok (.value (.slice (some ⟨w.heap.size, 0, none⟩) n cap)) (w.alloc (.cells cells e))) (hn : rows.length = n) (hnc : n ≤ cap) (hcm : cap ≤ maxLen) (hcs : cells.size = cap * sz)
    (hsz : ∀ (k : Nat) (row : List PV), rows[k]? = some row → row.length = sz) (hz : ∀ (k : Nat) (row : List PV) (j : Nat) (p : PV), rows[k]? = some row → row[j]? = some p → ∃ x, cells[k * sz + j]? = some x ∧ RepP (rdr F.R0 F.w0.heap.size σ γ w) p x) :
    o.wp P a w (Stp P F σ γ a w o d (σ.res d ⟨.sl sz rows, none, some e⟩)) Q := by
  subst hn
  unfold Oper.wp
  rw [hrun]
  show Stp P F σ γ a w o d (σ.putOwn d sz rows e) (a.put o.dst _) _
  rw [hd]
  have hnew : (w.alloc (.cells cells e)).heap[w.heap.size]? = some (.cells cells e (0, 0)) := heap_alloc_new w _
  have hb : Below w.heap.size w (w.alloc (.cells cells e)) := (Below.refl _ _).alloc (Nat.le_refl _) _
  refine ⟨γ.setRow (.s d) (some w.heap.size), _, rfl, hb, fun _ _ => rfl, ?_, fun g S _ hs => by rw [hsrc g] at hs; cases hs⟩
  have := h.row (d := d) hdn (s := none) (sz := sz) (rows := rows) (e := e) (v := .slice (some ⟨w.heap.size, 0, none⟩) rows.length cap) (q := some w.heap.size) hb.os hb.tape hb.output hb.size (fun k hk _ => hb.block k hk) (fun t ht => by cases ht)
    (fun g hg => by cases hg; exact .inl (Nat.le_refl _)) ⟨cap, cells, rfl, h.base, hnew, hnc, hcm, hcs⟩ (rep_mk (zs := cells.toList) hsz (fun k row j p hk hj => ?_) (.inr ⟨w.heap.size, 0, rfl, fun i x hx hi => ?_⟩) hnc)
  · exact this
  · obtain ⟨x, hx, h1⟩ := hz k row j p hk hj
    refine ⟨x, by rw [Array.getElem?_toList]; exact hx, h1.mono fun p v hp => ?_⟩
    rw [if_pos (by rw [hp]; rfl)]
    exact hp
  · have hno : rdr F.R0 F.w0.heap.size σ γ w ⟨w.heap.size, 0 + i, none⟩ = none := by
      cases hq : rdr F.R0 F.w0.heap.size σ γ w ⟨w.heap.size, 0 + i, none⟩ with
      | none => rfl
      | some z => exact absurd (Rel.cell_lt (h.cell hq)) (Nat.lt_irrefl _)
    rw [hno, if_neg (by simp), if_pos ⟨rfl, by simpa using hi⟩, Nat.zero_add, cell_of_row _ _ i cells e (0, 0) hnew]
    rw [Array.getElem?_toList] at hx
    exact hx
theorem hopx_sound {o : Oper} {K : HR → Prop} {g : Nat → Option AV} {bx : Nat → Option (List PV)} (hh : hopx P g bx o K) {d : Nat} (hd : o.dst = some d) (hdn : d < F.n) :
    ∃ r, K r ∧ ∀ σ γ a w, Rel F σ γ a w → (∀ t y, Operand.tmp t ∈ o.op.operands.toList → g t = some y → look σ.slot t = some y) → (∀ k cs, bx k = some cs → look σ.box k = some cs) → (bx d = none → look σ.box d = none) →
      ∀ Q, o.wp P a w (Stp P F σ γ a w o d (σ.res d r)) Q := by
  have hparts : ∀ {ps : Array (Nat × Operand)} {σ : St}, o.op.operands.toList = ps.toList.map (·.2) → (∀ t y, Operand.tmp t ∈ o.op.operands.toList → g t = some y → look σ.slot t = some y) → ∀ t y i, (i, Operand.tmp t) ∈ ps.toList → g t = some y → look σ.slot t = some y := fun he hg t y i hm => hg t y (by
    rw [he]
    exact List.mem_map.2 ⟨_, hm, rfl⟩)
  unfold hopx at hh
  split at hh
  · rename_i T ps ho
    obtain ⟨z, qs, cs, h1, h2, h3, h4, hh⟩ := hh
    refine ⟨_, hh, fun σ γ a w h hg hbx hbd Q => ?_⟩
    obtain ⟨i, hi, hz⟩ := info_some h1
    have h5 := partsC_ok h (hparts (ps := ps) (by rw [ho]; simp [Op.operands]) hg) h3
    have h6 : RepL (rdr F.R0 F.w0.heap.size σ γ w) (z.cells.toList.map .v) z.cells.toList := by
      rw [List.all_eq_true] at h2
      refine RepL.of (by simp) fun i p u hp hu => ?_
      rw [List.getElem?_map, hu] at hp
      cases hp
      exact .v u (h2 u (List.mem_of_getElem? hu))
    have h7 : (ps.map fun (p : Nat × Operand) => (p.1, a.eval p.2)).toList = ps.toList.map fun p => (p.1, a.eval p.2) := by simp
    split at h4
    · rename_i fs hu
      obtain ⟨h8, h9⟩ := h4
      obtain ⟨us, h10, h11⟩ := lfill_rep h5 h6 h9
      have hpl : (fs.mapM fun (f : Field) => (do pure (f.offset, ← sizeOf f.type) : Sem (Nat × Nat))).run P w = .ok (fs.toList.map fun f => (f.offset, ((P.info? f.type).map (·.size)).getD 0)).toArray w := by
        rw [Array.mapM_eq_mapM_toList, Sem.run_map, run_mapM _ (fun f => (f.offset, ((P.info? f.type).map (·.size)).getD 0))]
        · rfl
        · intro f hf
          have := Array.all_eq_true_iff_forall_mem.1 h8 f (by simpa using hf)
          obtain ⟨t, ht⟩ := Option.isSome_iff_exists.1 this
          simp [sizeOf, typeInfo, ht]
      have hplace : ((fs.toList.map fun f => (f.offset, ((P.info? f.type).map (·.size)).getD 0)).toArray[·]?) = placesB P fs := by
        funext i
        unfold placesB
        simp only [List.getElem?_toArray, List.getElem?_map, Array.getElem?_toList]
        cases hf : fs[i]? with
        | none => rfl
        | some f =>
          have := Array.all_eq_true_iff_forall_mem.1 h8 f (Array.mem_of_getElem? hf)
          obtain ⟨t, ht⟩ := Option.isSome_iff_exists.1 this
          simp [ht]
      refine pure_ok h hd hdn (u := .agg us.toArray) ?_ ⟨us, rfl, h11⟩ (fun k hk => by cases hk)
      simp only [execOp, ho, Instr.build, zeroValue, typeInfo, program, Sem.run_bind, Sem.run, Sem.run_pure, Result.andThen_ok, hi, hz, run_underlying hu, hpl, hplace, fill_eq, h7, h10, Option.map_some]
    · rename_i m e hu
      obtain ⟨sz, h8, h9⟩ := h4
      obtain ⟨us, h10, h11⟩ := lfill_rep h5 h6 h9
      obtain ⟨j, hj, hs⟩ := info_some h8
      refine pure_ok h hd hdn (u := .agg us.toArray) ?_ ⟨us, rfl, h11⟩ (fun k hk => by cases hk)
      simp only [execOp, ho, Instr.build, zeroValue, sizeOf, typeInfo, program, Sem.run_bind, Sem.run, Sem.run_pure, Result.andThen_ok, hi, hz, run_underlying hu, hj, hs, fill_eq, h7, h10, Option.map_some]
    · cases h4
  · rename_i T n ps ho
    obtain ⟨e, sz, z, qs, h1, h2, h3, h4, h5, h6, h7, h8, h9, hh⟩ := hh
    refine ⟨_, hh, fun σ γ a w h hg hbx hbd Q => ?_⟩
    obtain ⟨i, hi, hz⟩ := info_some h4
    have hs : i.size = sz := by rw [hi] at h2; simpa using h2
    have h10 := partsC_ok h (hparts (ps := ps) (by rw [ho]; simp [Op.operands]) hg) h7
    have h11 : (ps.map fun (p : Nat × Operand) => (p.1, a.eval p.2)).toList = ps.toList.map fun p => (p.1, a.eval p.2) := by simp
    have hqn : qs.length = n := by have := congrArg List.length h8; simpa using this
    have hl : ∀ q ∈ qs, q.2.length = sz := fun q hq => by have := List.all_eq_true.1 h9 q hq; simpa using this
    generalize hvs : ((ps.toList.map fun p => (p.1, a.eval p.2)).map fun p => (p.1, p.2.cells.toList)) = vs at h10
    have hvl : ∀ q ∈ vs, q.2.length = sz := h10.all hl
    have hfill : ∀ (zs : List Value), zs.length = n * sz → lfill (fun i => some (i * sz, sz)) zs vs = some (vs.map Prod.snd).flatten := fun zs hzs => by
      have := lfill_seq sz vs 0 [] zs (by rw [h10.fst, h8, h10.length, hqn, List.range_eq_range']) (by simp) (by rw [hzs, h10.length, hqn]) hvl
      simpa using this
    have hflen : ((vs.map Prod.snd).flatten).length = n * sz := by
      rw [List.length_flatten, show (vs.map Prod.snd).map List.length = List.replicate n sz by
        refine List.eq_replicate_iff.2 ⟨by simp [h10.length, hqn], fun x hx => ?_⟩
        obtain ⟨y, hy, rfl⟩ := List.mem_map.1 hx
        obtain ⟨q, hq, rfl⟩ := List.mem_map.1 hy
        exact hvl q hq]
      simp
    refine new_ok h hd hdn (sz := sz) (n := n) (cap := n) (e := e) (cells := (vs.map Prod.snd).flatten.toArray) (fun g => by simp [src, ho]) ?_ (by simp [hqn]) (Nat.le_refl _) (by
      have := Nat.le_mul_of_pos_right n h3
      simp only [maxLen]; omega) (by simpa using hflen) (fun k row hk => ?_) (fun k row j p hk hj => ?_)
    · have hlim : ¬ (n * sz > 2 ^ 24) := by omega
      have hf1 := hfill ((Array.range (n * sz)).map (fun k => z.cells[k % z.cells.size]!)).toList (by simp)
      by_cases hn0 : n = 0
      · subst hn0
        have hv0 : vs = [] := List.eq_nil_of_length_eq_zero (by rw [h10.length, hqn])
        subst hv0
        simp [execOp, ho, Instr.buildSlice, run_underlying h1, sizeOf, typeInfo, hi, fill_eq, hvs, lfill, newRow, newObj, Sem.run]
      · have hne : ¬ (n * sz = 0) := Nat.mul_ne_zero hn0 (by omega)
        simp only [execOp, ho, Instr.buildSlice, run_underlying h1, sizeOf, zeroValue, typeInfo, program, Sem.run_bind, Sem.run, Sem.run_pure, Result.andThen_ok, hi, hz, hs, hlim, hne, if_false, fill_eq, h11, hvs, newRow, newObj, hf1, Option.map_some]
        rfl
    · obtain ⟨q, hq, rfl⟩ := List.mem_map.1 (List.mem_of_getElem? hk)
      exact hl q hq
    · obtain ⟨us, h12, h13⟩ := h10.get hk
      obtain ⟨x, h14, h15⟩ := h13.get hj
      refine ⟨x, ?_, h15⟩
      rw [List.getElem?_toArray]
      refine flatten_get (fun y hy => ?_) h12 h14
      obtain ⟨q, hq, rfl⟩ := List.mem_map.1 hy
      exact hvl q hq
  · rename_i S D x ho
    obtain ⟨u, h1, h2, hh⟩ := hh
    obtain ⟨ds, hds⟩ := Option.isSome_iff_exists.1 h2
    split at hh
    · rename_i k0 n k hD
      refine ⟨_, hh, fun σ γ a w h hg hbx hbd Q => ?_⟩
      have h6 : a.eval x = .int k0 n := (evo_ok h (fun t z ht => hg t z (by rw [ho]; simp [Op.operands, ht])) h1).1
      refine pure_ok h hd hdn (u := .int k (k.wrap n)) ?_ rfl (fun k hk => by cases hk)
      simp [execOp, ho, h6, convert, run_underlying hds, run_underlying hD, Conv.intToInt]
    · rename_i s hD
      refine ⟨_, hh, fun σ γ a w h hg hbx hbd Q => ?_⟩
      have h6 : a.eval x = .string s := (evo_ok h (fun t z ht => hg t z (by rw [ho]; simp [Op.operands, ht])) h1).1
      refine pure_ok h hd hdn (u := .string s) ?_ rfl (fun k hk => by cases hk)
      simp [execOp, ho, h6, convert, run_underlying hds, run_underlying hD]
    · cases hh
  · rename_i op T x y yT ho
    rcases hh with hh | ⟨xs, ys, as, bs, n, b, h1, h2, h3, h4, h5, h6, h7, h8, h9, h10, hh⟩
    · exact hop_sound hh hd hdn
    · refine ⟨_, hh, fun σ γ a w h hg hbx hbd Q => ?_⟩
      obtain ⟨us, g1, g2⟩ := (evo_ok h (fun t z ht => hg t z (by rw [ho]; simp [Op.operands, ht])) h1).1
      obtain ⟨vs, g3, g4⟩ := (evo_ok h (fun t z ht => hg t z (by rw [ho]; simp [Op.operands, ht])) h2).1
      rw [intsOf_rep h3 g2] at g1
      rw [intsOf_rep h4 g4] at g3
      have hk : ∀ l : List Int, mkI P T l = .agg (l.map (Value.int .i64)).toArray := fun l => by
        unfold mkI
        cases hu : P.underlying T with
        | none => rw [hu] at h8; cases h8
        | some dd =>
          rw [hu] at h8
          cases dd <;> first | rfl | cases h8
      have heq := eq_ints (P := P) w 8 T n h5 10000 (by omega) as bs h6 h7
      rw [hk, hk] at heq
      refine pure_ok h hd hdn (u := .bool b) ?_ rfl (fun k hk => by cases hk)
      cases op <;> first | exact h10.elim | skip
      · rw [show b = (as == bs) from h10]
        simp only [execOp, ho, g1, g3, Sem.run_bind, run_eqGuard_agg w _ T x y _ _ h9, Result.andThen_ok, run_eql_struct, heq, Sem.run_pure]
      · rw [show b = !(as == bs) from h10]
        simp only [execOp, ho, g1, g3, Sem.run_bind, run_eqGuard_agg w _ T x y _ _ h9, Result.andThen_ok, run_neq_struct, heq, Sem.run_pure]
  · exact hop_sound hh hd hdn
end

end Av
end Go.Proofs.Ytkdigdnacggknaa
/- Abstract states: a region's operations in order; statements; functions. Generic. -/
namespace Go.Proofs.Ytkdigdnacggknaa
open Go.RowKit
namespace Av

def avOf (g : Nat → Option AV) (bx : Nat → Option (List PV)) : Loc → Option AV
  | .s t => g t
  | .b k off => ((bx k).bind (·[off]?)).map PV.av
section
variable {P : Program}
theorem hopx_src {g : Nat → Option AV} {bx : Nat → Option (List PV)} {o : Oper} {K : HR → Prop} (h : hopx P g bx o K) : hopx P g bx o (fun r => K r ∧ ∀ S, src P g o = some S → avOf g bx S = some r.av) := by
  by_cases hs : src P g o = none
  · have : (fun r => K r ∧ ∀ S, src P g o = some S → avOf g bx S = some r.av) = K := by
      funext r
      rw [hs]
      simp
    rw [this]
    exact h
  · unfold src at hs
    split at hs
    · rename_i s ho
      unfold hopx hop at h ⊢
      simp only [ho] at h ⊢
      obtain ⟨v, h1, h2⟩ := h
      refine ⟨v, h1, h2, fun S hS => ?_⟩
      simp only [src, ho, Option.some.injEq] at hS
      subst hS
      exact h1
    · rename_i s ho
      unfold hopx hop at h ⊢
      simp only [ho] at h ⊢
      obtain ⟨v, h1, h2⟩ := h
      refine ⟨v, h1, h2, fun S hS => ?_⟩
      simp only [src, ho, Option.some.injEq] at hS
      subst hS
      exact h1
    · rename_i T p ho
      split at hs
      · rename_i k off d h1 h2
        split at hs
        · exact absurd rfl hs
        · rename_i hrow
          unfold hopx hop at h ⊢
          have h1' : evo g (.tmp p) = some (.ref k off) := h1
          simp only [ho, h1'] at h ⊢
          obtain ⟨cs, h3, h4⟩ := h
          refine ⟨cs, h3, ?_⟩
          obtain ⟨d', n, h5, h6, h7⟩ := h4
          have : d' = d := by rw [h5] at h2; exact Option.some.inj h2
          subst this
          refine ⟨d', n, h5, h6, ?_⟩
          rw [if_neg hrow] at h7 ⊢
          obtain ⟨p', h8, h9⟩ := h7
          refine ⟨p', h8, h9, fun S hS => ?_⟩
          simp only [src, ho, h1, h5, if_neg hrow, Option.some.injEq] at hS
          subst hS
          simp only [avOf, h3, Option.bind_some]
          rw [List.getElem?_drop, Nat.add_zero] at h8
          rw [h8]
          rfl
      · exact absurd rfl hs
    · exact absurd rfl hs
end
def bxOf (r : HR) : Option (List PV) := match r.own with
  | some _ => none
  | none => r.box
def ownOf (r : HR) : Option (TypeId × Nat) := match r.own, r.av with
  | some e, .sl sz _ => some (e, sz)
  | _, _ => none
theorem res_slot (σ : St) (d : Nat) (r : HR) (t : Nat) : look (σ.res d r).slot t = if d = t then some r.av else look σ.slot t := by
  obtain ⟨x, b, o⟩ := r
  cases o with
  | none => cases b <;> rfl
  | some e => cases x <;> rfl
theorem res_box (σ : St) (d : Nat) (r : HR) (k : Nat) : look (σ.res d r).box k = match bxOf r with | some cs => if d = k then some cs else look σ.box k | none => look σ.box k := by
  obtain ⟨x, b, o⟩ := r
  cases o with
  | none => cases b <;> rfl
  | some e => cases x <;> rfl
theorem res_own (σ : St) (d : Nat) (r : HR) (L : Loc) : lookL (σ.res d r).own L = if L = .s d then ownOf r else lookL σ.own L := by
  obtain ⟨x, b, o⟩ := r
  cases o with
  | none => cases b <;> exact lookL_del _ _ _
  | some e => cases x <;> first | exact lookL_putOwn _ _ _ _ _ _ | exact lookL_del _ _ _
def stealSt (σ : St) (D S : Loc) : St := match lookL σ.own S with
  | some e => { σ with own := (D, e) :: delL (delL σ.own S) D }
  | none => σ
theorem stealSt_slot (σ : St) (D S : Loc) : (stealSt σ D S).slot = σ.slot ∧ (stealSt σ D S).box = σ.box := by
  unfold stealSt
  split <;> exact ⟨rfl, rfl⟩
theorem Rel.stealSt {F : Fr} {σ : St} {γ : Gh} {a : Act} {w : World} (h : Rel F σ γ a w) {D S : Loc} (hav : ∀ e, lookL σ.own S = some e → σ.avAt D = σ.avAt S) (hval : valAt a w γ S ≠ none → valAt a w γ D = valAt a w γ S) : ∃ γ', γ'.bx = γ.bx ∧ Rel F (stealSt σ D S) γ' a w := by
  unfold Av.stealSt
  cases hS : lookL σ.own S with
  | none => exact ⟨γ, rfl, h⟩
  | some e =>
    obtain ⟨rows, v, _, h2, _⟩ := h.owns S e.1 e.2 hS
    exact ⟨γ.setRow D (γ.rw S), rfl, h.steal hS (hav e hS) (hval (by rw [h2]; simp))⟩
/-- Whether the operation hands the row on: an assignment does, others if the list st names their slot. -/
def takes (st : List Nat) (o : Oper) (d : Nat) : Bool := match o.op with
  | .assign _ => true
  | _ => st.contains d
def stl (P : Program) (st : List Nat) (g : Nat → Option AV) (o : Oper) (d : Nat) (σ' : St) : St := if takes st o d = true then (match src P g o with | some S => stealSt σ' (.s d) S | none => σ') else σ'
def guardB (ops : Array Oper) (g : Nat → Option AV) (o : Oper) : Option Bool := match o.guard with
  | none => some true
  | some (j, want) => match (ops[j]?).bind (·.dst) with
    | some t => match g t with
      | some (.v (.bool b)) => some (b == want)
      | some (.v (.tuple _)) => some false
      | _ => none
    | none => none
def storeSt (σ : St) (k off : Nat) (cs xs : List PV) (x : Operand) : St := match x with
  | .tmp t => stealSt (σ.setBox k (setAt cs off xs) (keepL σ.own k off xs.length)) (.b k off) (.s t)
  | _ => σ.setBox k (setAt cs off xs) (keepL σ.own k off xs.length)
def appK (P : Program) (n : Nat) (σ : St) (c : Call) (d : Nat) (K : St → Prop) : Prop :=
  ∃ x y T e i z rows rows2 s, c.args.toList = [x, y] ∧ c.argTypes.toList = [T, T] ∧ P.underlying T = some (.slice e) ∧ (P.info? e).map (·.size) = some i ∧ 0 < i ∧ (P.info? e).map (·.zero) = some (some z) ∧ z.cells.size = i ∧ ((P.info? e).map fun j => decide (j.bytes ≤ 1000000)) = some true ∧ d < n ∧
    ((s = none ∧ rows = [] ∧ evo (look σ.slot) x = some (.v (.slice none 0 0))) ∨ (∃ t, x = .tmp t ∧ s = some t ∧ lookL σ.own (.s t) = some (e, i) ∧ look σ.slot t = some (.sl i rows))) ∧
    (evo (look σ.slot) y = some (.sl i rows2) ∨ (rows2 = [] ∧ evo (look σ.slot) y = some (.v (.slice none 0 0)))) ∧ rows.length + rows2.length ≤ 100000000 ∧
    K ({ σ with own := delS σ.own s }.putOwn d i (rows ++ rows2) e)
/-- An operation that is walked by hand: a map's, or a call that changes what the frame owns. In a region's list st: its slot and a million. -/
def Hand (P : Program) (n : Nat) (σ : St) (o : Oper) (K : St → Prop) : Prop :=
  ∀ (F : Fr) (γ : Gh) (a : Act) (w : World), F.n = n → Rel F σ γ a w → ∀ Q : Exit → Act → World → Prop, o.wp P a w (fun a' w' => ∃ σ' γ', K σ' ∧ Rel F σ' γ' a' w') Q
/-- One operation, with its effects. -/
def sop (P : Program) (n : Nat) (st : List Nat) (σ : St) (o : Oper) (K : St → Prop) : Prop :=
  match o.op, o.dst with
  | .store T x v, none => ∃ k off u cs xs, evo (look σ.slot) x = some (.ref k off) ∧ evo (look σ.slot) v = some u ∧ look σ.box k = some cs ∧ avCells u = some xs ∧ (P.info? T).map (·.size) = some xs.length ∧ off + xs.length ≤ cs.length ∧ K (storeSt σ k off cs xs v)
  | .call { callee := .builtin .append, args, argTypes }, some d => appK P n σ { callee := .builtin .append, args, argTypes } d K
  | _, some d => if st.contains (d + 1000000) = true then Hand P n σ o K else d < n ∧ hopx P (look σ.slot) (look σ.box) o (fun r => K (stl P st (look σ.slot) o d (σ.res d r)))
  | _, none => Hand P n σ o K
def sops (P : Program) (n : Nat) (st : List Nat) (ops : Array Oper) : List Oper → St → (St → Prop) → Prop
  | [], σ, K => K σ
  | o :: l, σ, K => match guardB ops (look σ.slot) o with
    | some true => sop P n st σ o fun σ' => sops P n st ops l σ' K
    | some false => ∃ d, o.dst = some d ∧ d < n ∧ sops P n st ops l (σ.put d (.v undef)) K
    | none => False

section
variable {P : Program} {F : Fr}
theorem Stp.mono {σ : St} {γ : Gh} {a : Act} {w : World} {o : Oper} {d : Nat} {σ' : St} {a' : Act} {w' : World} (h : Stp P F σ γ a w o d σ' a' w') : ∃ γ', Rel F σ' γ' a' w' := by
  obtain ⟨γ', u, _, _, _, h1, _⟩ := h
  exact ⟨γ', h1⟩
theorem stl_ok {st : List Nat} {σ : St} {γ : Gh} {a : Act} {w : World} {o : Oper} {d : Nat} {r : HR} {a' : Act} {w' : World} (h0 : Rel F σ γ a w) (hdn : d < F.n) (hs : ∀ S, src P (look σ.slot) o = some S → avOf (look σ.slot) (look σ.box) S = some r.av) (hb : bxOf r = none ∨ src P (look σ.slot) o = none)
    (h : Stp P F σ γ a w o d (σ.res d r) a' w') : ∃ γ', Rel F (stl P st (look σ.slot) o d (σ.res d r)) γ' a' w' := by
  obtain ⟨γ', u, rfl, h1, h2, h3, h4⟩ := h
  unfold stl
  split
  · split
    · rename_i S hS
      have hd' : d < a.tmps.size := by rw [h0.size]; exact hdn
      have hbx : bxOf r = none := hb.resolve_right (by rw [hS]; simp)
      have hvd : valAt (a.put (some d) u) w' γ' (.s d) = some u := by simp [valAt, getD_put hd']
      have havS : avOf (look σ.slot) (look σ.box) S = some r.av := hs S hS
      by_cases hSd : S = .s d
      · subst hSd
        obtain ⟨γ'', _, h5⟩ := h3.stealSt (D := .s d) (S := .s d) (fun _ _ => rfl) (fun _ => rfl)
        exact ⟨γ'', h5⟩
      · have hval : valAt (a.put (some d) u) w' γ' S ≠ none → valAt (a.put (some d) u) w' γ' (.s d) = valAt (a.put (some d) u) w' γ' S := fun hne => by
          rw [hvd]
          have h5 : valAt (a.put (some d) u) w' γ' S = valAt a w γ S := by
            cases S with
            | s t =>
              have : d ≠ t := fun e => hSd (by rw [e])
              simp [valAt, getD_put hd', this]
            | b k off =>
              have hk : (look σ.box k).isSome := by
                cases hq : look σ.box k with
                | none => simp [avOf, hq] at havS
                | some cs => rfl
              show w'.cell? ⟨γ'.bx k, off, none⟩ = w.cell? ⟨γ.bx k, off, none⟩
              rw [h2 k hk]
              exact h1.cell (p := ⟨γ.bx k, off, none⟩) (h0.box_lt hk).1
          rcases h4 (look σ.slot) S (fun t y _ hy => hy) hS with h6 | h6
          · rw [h5, h6]
          · rw [h5, h6] at hne; exact absurd rfl hne
        have hav : (σ.res d r).avAt (.s d) = (σ.res d r).avAt S := by
          have h6 : (σ.res d r).avAt (.s d) = some r.av := by
            show look (σ.res d r).slot d = _
            rw [res_slot, if_pos rfl]
          rw [h6, ← havS]
          cases S with
          | s t =>
            have : d ≠ t := fun e => hSd (by rw [e])
            show _ = look (σ.res d r).slot t
            rw [res_slot, if_neg this]
            rfl
          | b k off =>
            show _ = ((look (σ.res d r).box k).bind (·[off]?)).map PV.av
            rw [res_box, hbx]
            rfl
        obtain ⟨γ'', _, h5⟩ := h3.stealSt (D := .s d) (S := S) (fun _ _ => hav) hval
        exact ⟨γ'', h5⟩
    · exact ⟨γ', h3⟩
  · exact ⟨γ', h3⟩
theorem hopx_box {g : Nat → Option AV} {bx : Nat → Option (List PV)} {o : Oper} {K : HR → Prop} (h : hopx P g bx o K) (hs : src P g o ≠ none) : hopx P g bx o (fun r => K r ∧ bxOf r = none) := by
  unfold src at hs
  split at hs
  · rename_i s ho
    unfold hopx hop at h ⊢
    simp only [ho] at h ⊢
    obtain ⟨v, h1, h2⟩ := h
    exact ⟨v, h1, h2, rfl⟩
  · rename_i s ho
    unfold hopx hop at h ⊢
    simp only [ho] at h ⊢
    obtain ⟨v, h1, h2⟩ := h
    exact ⟨v, h1, h2, rfl⟩
  · rename_i T p ho
    split at hs
    · rename_i k off d h1 h2
      unfold hopx hop at h ⊢
      have h1' : evo g (.tmp p) = some (.ref k off) := h1
      simp only [ho, h1'] at h ⊢
      obtain ⟨cs, h3, d', n, h5, h6, h7⟩ := h
      refine ⟨cs, h3, d', n, h5, h6, ?_⟩
      split at h7
      · rename_i hr
        rw [if_pos hr]
        exact ⟨h7.1, h7.2, rfl⟩
      · rename_i hr
        rw [if_neg hr]
        obtain ⟨p', h8, h9⟩ := h7
        exact ⟨p', h8, h9, rfl⟩
    · exact absurd rfl hs
  · exact absurd rfl hs
/-- One operation in order. -/
theorem hopx_full {g : Nat → Option AV} {bx : Nat → Option (List PV)} {o : Oper} {K : HR → Prop} (hh : hopx P g bx o K) {d : Nat} (hd : o.dst = some d) (hdn : d < F.n) :
    ∃ r, K r ∧ (∀ S, src P g o = some S → avOf g bx S = some r.av) ∧ (bxOf r = none ∨ src P g o = none) ∧ ∀ σ γ a w, Rel F σ γ a w → (∀ t y, Operand.tmp t ∈ o.op.operands.toList → g t = some y → look σ.slot t = some y) → (∀ k cs, bx k = some cs → look σ.box k = some cs) → (bx d = none → look σ.box d = none) →
      ∀ Q, o.wp P a w (Stp P F σ γ a w o d (σ.res d r)) Q := by
  by_cases hs : src P g o = none
  · obtain ⟨r, ⟨h1, h2⟩, h3⟩ := hopx_sound (F := F) (hopx_src hh) hd hdn
    exact ⟨r, h1, h2, .inr hs, h3⟩
  · obtain ⟨r, ⟨⟨h1, h4⟩, h2⟩, h3⟩ := hopx_sound (F := F) (hopx_src (hopx_box hh hs)) hd hdn
    exact ⟨r, h1, h2, .inl h4, h3⟩
theorem append_ok {σ : St} {γ : Gh} {a : Act} {w : World} {o : Oper} {d : Nat} {args : Array Operand} {ats : Array TypeId} (h : Rel F σ γ a w) (ho : o.op = .call { callee := .builtin .append, args, argTypes := ats }) (hd : o.dst = some d) {K : St → Prop}
    (hK : appK P F.n σ { callee := .builtin .append, args, argTypes := ats } d K) (Q : Exit → Act → World → Prop) : o.wp P a w (fun a' w' => ∃ σ' γ', K σ' ∧ Rel F σ' γ' a' w') Q := by
  obtain ⟨x, y, T, e, i, z, rows, rows2, s, h1, h2, h3, h4a, h4c, h4b, h5, h6, h7, h8, h9, h10, hK⟩ := hK
  dsimp only at h1 h2
  obtain rfl := arr_of h1
  obtain rfl := arr_of h2
  obtain ⟨j, hj, h4b⟩ := info_some h4b
  have h4 : j.size = i ∧ j.zero = some z := ⟨by rw [hj] at h4a; simpa using h4a, h4b⟩
  rw [hj] at h6
  simp only [Option.map_some, Option.some.injEq, decide_eq_true_eq] at h6
  have hs : (s = none ∧ rows = [] ∧ a.eval x = .slice none 0 0) ∨ (∃ t, s = some t ∧ lookL σ.own (.s t) = some (e, j.size) ∧ look σ.slot t = some (.sl j.size rows) ∧ a.eval x = a.tmps.getD t undef) := by
    rcases h8 with ⟨h11, h12, h13⟩ | ⟨t, rfl, h12, h13, h14⟩
    · exact .inl ⟨h11, h12, (evo_ok h (fun t y _ hy => hy) h13).1⟩
    · exact .inr ⟨t, h12, by rw [h4.1]; exact h13, by rw [h4.1]; exact h14, rfl⟩
  have hu2 : RepP (rdr F.R0 F.w0.heap.size σ γ w) (.sl j.size rows2) (a.eval y) := by
    rcases h9 with h9 | ⟨rfl, h9⟩
    · rw [h4.1]; exact (evo_ok h (fun t y _ hy => hy) h9).1
    · rw [show a.eval y = .slice none 0 0 from (evo_ok h (fun t y _ hy => hy) h9).1]
      exact .sl j.size [] none 0 (fun _ _ => undef) (fun k row hk => by simp at hk) (.inl rfl) (fun k row _ _ hk => by simp at hk) (Nat.le_refl _)
  obtain ⟨v, w1, γ', hr, hrel⟩ := h.append (ty := o.type) h7 h3 hj h4.2 (by rw [h5, h4.1]) (by rw [h4.1]; omega) h6 hs hu2 h10
  unfold Oper.wp
  have hrun : (execOp a.eval o).run P w = .ok (.value v) w1 := by
    simp [execOp, ho, resolve, invoke, builtin, hr]
  rw [hrun]
  show ∃ σ' γ', K σ' ∧ Rel F σ' γ' (a.put o.dst v) w1
  rw [hd]
  rw [h4.1] at hrel
  exact ⟨_, γ', hK, hrel⟩
theorem store_ok {σ : St} {γ : Gh} {a : Act} {w : World} {o : Oper} {T : TypeId} {x v : Operand} (h : Rel F σ γ a w) (ho : o.op = .store T x v) (hd : o.dst = none) {K : St → Prop} {k off : Nat} {u : AV} {cs xs : List PV}
    (h1 : evo (look σ.slot) x = some (.ref k off)) (h2 : evo (look σ.slot) v = some u) (h3 : look σ.box k = some cs) (h4 : avCells u = some xs) (h5 : (P.info? T).map (·.size) = some xs.length) (h6 : off + xs.length ≤ cs.length) (hK : K (storeSt σ k off cs xs v)) (Q : Exit → Act → World → Prop) :
    o.wp P a w (fun a' w' => ∃ σ' γ', K σ' ∧ Rel F σ' γ' a' w') Q := by
  have g1 : a.eval x = .pointer (some ⟨γ.bx k, off, none⟩) := (evo_ok h (fun t y _ hy => hy) h1).1
  have g2 := (evo_ok h (fun t y _ hy => hy) h2).1
  obtain ⟨w1, hr, hrel, hcell⟩ := h.store (P := P) h3 (avCells_ok g2 h4) h5 h6
  unfold Oper.wp
  have hrun : (execOp a.eval o).run P w = .ok .skip w1 := by
    simp [execOp, ho, g1, hr]
  rw [hrun]
  show ∃ σ' γ', K σ' ∧ Rel F σ' γ' (a.put o.dst undef) w1
  rw [hd]
  show ∃ σ' γ', K σ' ∧ Rel F σ' γ' a w1
  unfold storeSt at hK
  split at hK
  · rename_i t
    have key : ∀ e, lookL (σ.setBox k (setAt cs off xs) (keepL σ.own k off xs.length)).own (.s t) = some e → ∃ sz rows, look σ.slot t = some (.sl sz rows) ∧ xs = [.sl sz rows] := fun e he => by
      obtain ⟨he', _⟩ := lookL_keep he
      obtain ⟨rows, v', h7, _⟩ := h.owns (.s t) e.1 e.2 he'
      have h8 : look σ.slot t = some (.sl e.2 rows) := h7
      have h9 : look σ.slot t = some u := h2
      rw [h8] at h9
      cases h9
      cases h4
      exact ⟨_, _, h8, rfl⟩
    by_cases hown : lookL (σ.setBox k (setAt cs off xs) (keepL σ.own k off xs.length)).own (.s t) = none
    · unfold stealSt at hK
      rw [hown] at hK
      exact ⟨_, γ, hK, hrel⟩
    · obtain ⟨e, he⟩ := Option.ne_none_iff_exists'.1 hown
      obtain ⟨sz, rows, h7, rfl⟩ := key e he
      have hu : (a.eval (.tmp t)).cells.toList = [a.eval (.tmp t)] := by
        have h8 : look σ.slot t = some u := h2
        rw [h7] at h8
        cases h8
        have := (show RepP _ (.sl sz rows) (a.eval (.tmp t)) from g2).one
        cases hv : a.eval (.tmp t) <;> first | rfl | (rw [hv] at this; cases this)
      have hav : (σ.setBox k (setAt cs off [.sl sz rows]) (keepL σ.own k off 1)).avAt (.b k off) = look σ.slot t := by
        show ((look (σ.setBox k _ _).box k).bind (·[off]?)).map PV.av = look σ.slot t
        have : look (σ.setBox k (setAt cs off [.sl sz rows]) (keepL σ.own k off 1)).box k = some (setAt cs off [.sl sz rows]) := by simp [St.setBox, look_cons]
        rw [this, h7]
        simp only [Option.bind_some]
        have hl : off < cs.length := by simp at h6; omega
        unfold setAt
        rw [List.append_assoc, List.getElem?_append_right (by simp; omega)]
        simp [Nat.min_eq_left (Nat.le_of_lt hl)]
        rfl
      have hval : w1.cell? ⟨γ.bx k, off, none⟩ = some (a.tmps.getD t undef) := by
        have := hcell 0 (.sl sz rows) rfl (a.eval (.tmp t)) (by rw [hu]; rfl)
        rw [Nat.add_zero] at this
        exact this
      obtain ⟨γ', _, h8⟩ := hrel.stealSt (D := .b k off) (S := .s t) (fun _ _ => hav) (fun _ => hval)
      exact ⟨_, γ', hK, h8⟩
  · exact ⟨_, γ, hK, hrel⟩

end
end Av
end Go.Proofs.Ytkdigdnacggknaa
