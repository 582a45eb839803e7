import Derived.Laws.Pointers
import Derived.Test.YtkdigdnacggknaaZAvN
/- Abstract states: maps whose elements are pointers to boxes. Generic. -/
namespace Go.Proofs.Ytkdigdnacggknaa
open Go.RowKit Go.Maps
open Go.Maps (Keyed)
namespace Av

/-- How a pointer reads: by its block's number. -/
def ptrR : MReader := fun v => match v with | .pointer (some ⟨g, 0, none⟩) => some (.lit (.int .i64 (g : Int)), []) | _ => none
theorem ptrR_mk (g : Nat) : ptrR (.pointer (some ⟨g, 0, none⟩)) = some (.lit (.int .i64 (g : Int)), []) := rfl
theorem ptrR_inv {v : Value} {d : DataW Unit} {ps : List MemPlace} (h : ptrR v = some (d, ps)) : ∃ g : Nat, v = .pointer (some ⟨g, 0, none⟩) ∧ d = .lit (.int .i64 (g : Int)) := by
  unfold ptrR at h
  split at h
  · rename_i g
    simp only [Option.some.injEq, Prod.mk.injEq] at h
    exact ⟨g, rfl, h.1.symm⟩
  · cases h
theorem ptrR_one {v : Value} {d : DataW Unit} {ps : List MemPlace} (h : ptrR v = some (d, ps)) : v.oneCell' = true := by
  obtain ⟨g, rfl, _⟩ := ptrR_inv h
  rfl
section
variable {P : Program} {k : TypeId} {n d : Nat} {σ : St} {o : Oper} {K : St → Prop}
/-- A look-up of a pointer, in a drawn head: the key is there. -/
theorem handq_lookup_ref {T e : TypeId} {m x : Operand} {b nn g : Nat} {G : Value → Option (DataW Unit)} {xs : List Value} {kl : Lit} {bx0 : Nat → Option (List PV)} (ho : o.op = .lookup T m x false) (hd : o.dst = some d) (hdn : d < n)
    (hm : evo (look σ.slot) m = some (.v (.map (some b)))) (hx : evo (look σ.slot) x = some (.agg (xs.map PV.v))) (hE : ∀ w, σ.ext.holds w → MapIs w P k ptrR b nn G) (Kk : Keyed P k) (ht : P.underlying T = some (.map k e)) (hz : ∀ w, (zeroValue e).run P w = .ok (.pointer none) w)
    (hkey : keyOf P k (.agg xs.toArray) = some kl) (hG : G (.agg xs.toArray) = some (.lit (.int .i64 (g : Int)))) (hbx : (bx0 (g + 1000000)).isSome = true) : HandQ P n bx0 σ o d ⟨.ref (g + 1000000) 0, none, none⟩ := by
  intro F σ1 γ a w hF hr hops hb hext Q
  have h1 : ∀ y v, evo (look σ.slot) y = some v → y ∈ o.op.operands.toList → evo (look σ1.slot) y = some v := fun y v hy hmem => by
    cases y with
    | tmp t => exact hops t v hmem hy
    | _ => exact hy
  have e1 := eval_raw hr (h1 m _ hm (by rw [ho]; simp [Op.operands]))
  have e2 := eval_aggv hr (h1 x _ hx (by rw [ho]; simp [Op.operands]))
  have hh := hE w (by rw [← hext]; exact hr.exth)
  obtain ⟨cs, hcs⟩ := Option.isSome_iff_exists.1 hbx
  have hbox : (look σ1.box (g + 1000000)).isSome := by rw [hb _ _ hcs]; rfl
  rcases hh.look false Kk ht (hz w) hkey with ⟨hno, _⟩ | ⟨v, dd, ps, hG', hR, hrun⟩
  · rw [hG] at hno; cases hno
  · rw [hG] at hG'
    cases hG'
    obtain ⟨g', rfl, hg'⟩ := ptrR_inv hR
    simp only [DataW.lit.injEq, Lit.int.injEq, true_and] at hg'
    have : g' = g := by omega
    subst this
    refine pure_ok hr hd (by rw [hF]; exact hdn) (u := .pointer (some ⟨g', 0, none⟩)) ?_ ?_ (fun j hj => by simp [AV.refs] at hj; subst hj; exact hbox)
    · simp [execOp, ho, e1, e2, hrun]
    · show _ = Value.pointer _
      rw [hr.dyn _ hbox (by omega)]
      simp
/-- A look-up of a pointer: nil, or a box. -/
theorem hand_lookup_ref {T e : TypeId} {m x : Operand} {b nn : Nat} {G : Value → Option (DataW Unit)} {xs : List Value} {kl : Lit} (ho : o.op = .lookup T m x false) (hd : o.dst = some d) (hdn : d < n)
    (hm : evo (look σ.slot) m = some (.v (.map (some b)))) (hx : evo (look σ.slot) x = some (.agg (xs.map PV.v))) (hE : ∀ w, σ.ext.holds w → MapIs w P k ptrR b nn G) (Kk : Keyed P k) (ht : P.underlying T = some (.map k e)) (hz : ∀ w, (zeroValue e).run P w = .ok (.pointer none) w)
    (hkey : keyOf P k (.agg xs.toArray) = some kl) (hbx : ∀ g : Nat, G (.agg xs.toArray) = some (.lit (.int .i64 (g : Int))) → (look σ.box (g + 1000000)).isSome = true)
    (hno : G (.agg xs.toArray) = none → K (σ.put d (.v (.pointer none))))
    (hyes : ∀ g : Nat, G (.agg xs.toArray) = some (.lit (.int .i64 (g : Int))) → K (σ.put d (.ref (g + 1000000) 0))) : Hand P n σ o K := by
  refine hand_value hd hdn fun F γ a w _ hr => ?_
  have e1 := eval_raw hr hm
  have e2 := eval_aggv hr hx
  have hsame : Turn σ.ext w w σ.ext := Turn.same hr.exth (fun _ h => h) (fun _ h => .inr h)
  rcases (hE w hr.exth).look false Kk ht (hz w) hkey with ⟨hG, hrun⟩ | ⟨v, dd, ps, hG, hR, hrun⟩
  · refine ⟨.v (.pointer none), .pointer none, w, σ.ext, ?_, hsame, rfl, (fun k hk => by cases hk), hno hG⟩
    simp [execOp, ho, e1, e2, hrun]
  · obtain ⟨g, rfl, rfl⟩ := ptrR_inv hR
    have hb := hbx g hG
    refine ⟨.ref (g + 1000000) 0, .pointer (some ⟨g, 0, none⟩), w, σ.ext, ?_, hsame, ?_, (fun j hj => by simp [AV.refs] at hj; subst hj; exact hb), hyes g hG⟩
    · simp [execOp, ho, e1, e2, hrun]
    · show _ = Value.pointer _
      rw [hr.dyn _ hb (by omega)]
      simp
/-- Is a pointer nil? -/
theorem hand_isNil {T T' : TypeId} {x : Operand} {u : AV} (ho : o.op = .binOp .eql T x (.const (.pointer none)) T') (hd : o.dst = some d) (hdn : d < n) (hT : P.underlying T = some (.pointer (P.pointee T))) (hx : evo (look σ.slot) x = some u) (hu : ptrB u = true ∨ u = .v (.pointer none))
    (h : K (σ.put d (.v (.bool (!ptrB u))))) : Hand P n σ o K := by
  refine hand_value hd hdn fun F γ a w _ hr => ?_
  have e1 := (evo_ok hr (fun _ _ _ hy => hy) hx).1
  refine ⟨.v (.bool (!ptrB u)), .bool (!ptrB u), w, σ.ext, ?_, Turn.same hr.exth (fun _ h => h) (fun _ h => .inr h), rfl, (fun k hk => by cases hk), h⟩
  have e2 : (ptrB u = true ∧ ∃ p, a.eval x = .pointer (some p)) ∨ (ptrB u = false ∧ a.eval x = .pointer none) := by
    rcases hu with hu | rfl
    · refine .inl ⟨hu, ?_⟩
      cases u with
      | ref k off => exact ⟨_, e1⟩
      | ept row => obtain ⟨b, off, us, e, _⟩ := e1; exact ⟨_, e⟩
      | v y =>
        cases y with
        | pointer q =>
          cases q with
          | some p => exact ⟨p, e1⟩
          | none => cases hu
        | _ => cases hu
      | _ => cases hu
    · exact .inr ⟨rfl, e1⟩
  have e3 : a.eval (.const (.pointer none)) = .pointer none := rfl
  rcases e2 with ⟨h1, p, h2⟩ | ⟨h1, h2⟩
  · rw [h1]
    simp [execOp, ho, h2, e3, eqGuard, binOp, run_equal_pointer_nil w T (some p) hT]
  · rw [h1]
    simp [execOp, ho, h2, e3, eqGuard, binOp, run_equal_pointer_nil w T none hT]
/-- A fresh box is put into the map: from then on its name is its block's number. -/
theorem hand_mapUpdate_ref {T e : TypeId} {m x v : Operand} {b nn kb : Nat} {G : Value → Option (DataW Unit)} {xs : List Value} {kl : Lit} {E' : Nat → (Value → Option (DataW Unit)) → Ext} (ho : o.op = .mapUpdate T m x v) (hd : o.dst = none)
    (hm : evo (look σ.slot) m = some (.v (.map (some b)))) (hx : evo (look σ.slot) x = some (.agg (xs.map PV.v))) (hv : evo (look σ.slot) v = some (.ref kb 0)) (hkb : kb < 1000000) (hno : ∀ off, lookL σ.own (.b kb off) = none) (hE : ∀ w, σ.ext.holds w → MapIs w P k ptrR b nn G) (hn : nn < maxLen) (Kk : Keyed P k) (ht : P.underlying T = some (.map k e)) (hkey : keyOf P k (.agg xs.toArray) = some kl)
    (hT : ∀ w w1 G', (∀ b, σ.ext.all b → b < w.heap.size) → σ.ext.holds w → Turn (mapE P k ptrR b nn G) w w1 (mapE P k ptrR b (nn + 1) G') → Turn σ.ext w w1 (E' (nn + 1) G'))
    (h : ∀ (g : Nat) (G' : Value → Option (DataW Unit)), look σ.box (g + 1000000) = none → G' (.agg xs.toArray) = some (.lit (.int .i64 (g : Int))) → (∀ y, y ≠ .agg xs.toArray → G' y = G y) → K (({ σ with ext := E' (nn + 1) G' } : St).ren kb (g + 1000000))) : Hand P n σ o K := by
  classical
  intro F γ a w _ hr Q
  have e1 := eval_raw hr hm
  have e2 := eval_aggv hr hx
  obtain ⟨e3, e4⟩ := evo_ok hr (fun _ _ _ hy => hy) hv
  have hbox := e4 kb (by simp [AV.refs])
  have e3' : a.eval v = .pointer (some ⟨γ.bx kb, 0, none⟩) := e3
  obtain ⟨w1, hrun, h1, hg⟩ := (hE w hr.exth).put Kk ht hn hkey (ptrR_mk (γ.bx kb))
  have htn := hT w w1 _ (fun b hb => (hr.extf b hb).2.1) hr.exth (Turn.grown hg rfl h1 (fun _ hx => hx) (fun _ hx => hx.elim))
  obtain ⟨hnone, hrel⟩ := (hr.turn htn).ren (kb := kb) hbox hkb rfl hno
  have hex : (execOp a.eval o).run P w = .ok .skip w1 := by simp [execOp, ho, e1, e2, e3', hrun]
  unfold Oper.wp
  rw [hex]
  show ∃ σ' γ', K σ' ∧ Rel F σ' γ' (a.put o.dst undef) w1
  rw [hd]
  exact ⟨_, _, h (γ.bx kb) _ hnone (if_pos rfl) (fun y hy => if_neg hy), hrel⟩
end
end Av
end Go.Proofs.Ytkdigdnacggknaa
/- Abstract states: a region that draws its order, whose head ends with an append onto a row that a box owns: 'p.f = append(p.f, x)'. Generic. -/
namespace Go.Proofs.Ytkdigdnacggknaa
open Go.RowKit
namespace Av

/-- Behind such an append: the row belongs to slot d. -/
def appSt (σ : St) (t k off d i : Nat) (rows : List (List PV)) (e : TypeId) : St :=
  { slot := (d, .sl i rows) :: σ.slot, box := σ.box, own := (.s d, (e, i)) :: delL (delL (delL σ.own (.b k off)) (.s t)) (.s d), ext := σ.ext }
/-- What such an append asks. -/
def appB (P : Program) (n : Nat) (σ : St) (sl : List (Nat × Loc)) (c : Call) (d : Nat) (K : St → Prop) : Prop :=
  ∃ t k off y T e i z rows rows2, sl = [(t, .b k off)] ∧ c.args.toList = [.tmp t, y] ∧ c.argTypes.toList = [T, T] ∧ P.underlying T = some (.slice e) ∧ (P.info? e).map (·.size) = some i ∧ 0 < i ∧ (P.info? e).map (·.zero) = some (some z) ∧ z.cells.size = i ∧ ((P.info? e).map fun j => decide (j.bytes ≤ 1000000)) = some true ∧ d < n ∧
    lookL σ.own (.b k off) = some (e, i) ∧ look σ.slot t = some (.sl i rows) ∧ (evo (look σ.slot) y = some (.sl i rows2)) ∧ rows.length + rows2.length ≤ 100000000 ∧ K (appSt σ t k off d i (rows ++ rows2) e)
theorem appSt_own {σ : St} {t k off d i : Nat} {rows : List (List PV)} {e : TypeId} (M : Loc) : lookL (appSt σ t k off d i rows e).own M = if M = .s d then some (e, i) else if M = .s t then none else if M = .b k off then none else lookL σ.own M := by
  unfold appSt
  dsimp only
  rw [lookL_cons, lookL_del, lookL_del, lookL_del]
  by_cases h : M = .s d
  · subst h; simp
  · rw [if_neg (fun e => h e.symm), if_neg h, if_neg h]
theorem appSt_slot {σ : St} {t k off d i : Nat} {rows : List (List PV)} {e : TypeId} (s : Nat) : look (appSt σ t k off d i rows e).slot s = if d = s then some (.sl i rows) else look σ.slot s := rfl
/-- The append itself. -/
theorem appB_ok {P : Program} {F : Fr} {σ : St} {γ : Gh} {a : Act} {w : World} {o : Oper} {d : Nat} {c : Call} (h : Rel F σ γ a w) (ho : o.op = .call { callee := .builtin .append, args := c.args, argTypes := c.argTypes }) (hd : o.dst = some d) {t k off i : Nat} {y : Operand} {T e : TypeId} {z : Value} {rows rows2 : List (List PV)}
    (h1 : c.args.toList = [.tmp t, y]) (h2 : c.argTypes.toList = [T, T]) (h3 : P.underlying T = some (.slice e)) (h4 : (P.info? e).map (·.size) = some i) (h5 : 0 < i) (h6 : (P.info? e).map (·.zero) = some (some z)) (h7 : z.cells.size = i) (h8 : ((P.info? e).map fun j => decide (j.bytes ≤ 1000000)) = some true) (h9 : d < F.n)
    (h10 : lookL σ.own (.b k off) = some (e, i)) (h11 : look σ.slot t = some (.sl i rows)) (h12 : evo (look σ.slot) y = some (.sl i rows2)) (h13 : rows.length + rows2.length ≤ 100000000) (hav : σ.avAt (.s t) = σ.avAt (.b k off)) (hval : valAt a w γ (.b k off) ≠ none → valAt a w γ (.s t) = valAt a w γ (.b k off)) (Q : Exit → Act → World → Prop) :
    o.wp P a w (fun a' w' => ∃ γ', Rel F (appSt σ t k off d i (rows ++ rows2) e) γ' a' w') Q := by
  obtain ⟨γ1, _, hr1⟩ := h.stealSt (D := .s t) (S := .b k off) (fun _ _ => hav) hval
  have hst : stealSt σ (.s t) (.b k off) = { σ with own := (.s t, (e, i)) :: delL (delL σ.own (.b k off)) (.s t) } := by unfold stealSt; rw [h10]
  rw [hst] at hr1
  refine Oper.wp_mono (fun a' w' hq => ?_) (append_ok (K := fun σ' => σ' = ({ slot := σ.slot, box := σ.box, own := delS ((.s t, (e, i)) :: delL (delL σ.own (.b k off)) (.s t)) (some t), ext := σ.ext } : St).putOwn d i (rows ++ rows2) e) hr1 ho hd ⟨.tmp t, y, T, e, i, z, rows, rows2, some t, h1, h2, h3, h4, h5, h6, h7, h8, h9, .inr ⟨t, rfl, rfl, by rw [lookL_cons, if_pos rfl], h11⟩, .inl h12, h13, rfl⟩ Q)
  obtain ⟨σ', γ', rfl, hr'⟩ := hq
  refine ⟨γ', hr'.congr (fun s => rfl) (fun s => rfl) (fun M => ?_) rfl⟩
  rw [appSt_own]
  unfold St.putOwn delS
  dsimp only
  simp only [lookL_cons, lookL_del]
  by_cases e1 : M = .s d
  · subst e1; simp
  · have e1' : ¬ Loc.s d = M := fun e => e1 e.symm
    rw [if_neg e1, if_neg e1', if_neg e1]
    by_cases e2 : M = .s t
    · rw [if_pos e2, if_pos e2]
    · have e2' : ¬ Loc.s t = M := fun e => e2 e.symm
      rw [if_neg e2, if_neg e2, if_neg e2']

section
variable {P : Program} {F : Fr} {ops : Array Oper} {bx0 : Nat → Option (List PV)}
theorem awp_drawA {id : Nat} {l : List Oper} {Q : AX → St → Prop} {σ : St} (st : List Nat) (m : Nat) {oA : Oper} {dA : Nat} {cA : Call} (hm : P.follows .mixedOrders = true) (hn : m + 1 ≤ l.length) (hs : ssaB l.toArray (m + 1) = true) (ht : tailB l.toArray (m + 1) = true)
    (hoA : l[m]? = some oA) (hopA : oA.op = .call { callee := .builtin .append, args := cA.args, argTypes := cA.argTypes }) (hdA : oA.dst = some dA) (hgA : oA.guard = none)
    (h : headW P F.n st l.toArray (look σ.box) (l.take m) σ [] fun σ1 sl => appB P F.n σ1 sl cA dA fun σ2 => sops P F.n st l.toArray (l.drop (m + 1)) σ2 (Q .normal)) : AWp P F (Code.region id l.toArray true) Q σ := by
  intro γ a w hr
  obtain ⟨rs3, σ', sl, hrun, hK, hsl⟩ := headW_run h
  obtain ⟨t, k, off, y, T, e, i0, z, rows, rows2, hslE, g1, g2, g3, g4, g5, g6, g7, g8, g9, g10, g11, g12, g13, hK⟩ := hK
  subst hslE
  have hsz : l.toArray.size = l.length := by simp
  have hlt : (l.take m).length = m := by simp; omega
  have hlen : rs3.length = m := by rw [hrun.length, hlt]
  have hoA' : l.toArray[m]? = some oA := by simpa using hoA
  have hdst : ∀ {i d r S}, rs3[i]? = some (d, r, S) → i < m ∧ (l.toArray[i]?).bind (·.dst) = some d := fun {i d r S} hx => by
    obtain ⟨o, h1, h2⟩ := hrun.dst hx
    have hi : i < m := by rw [← hlen]; exact (List.getElem?_eq_some_iff.1 hx).1
    refine ⟨hi, ?_⟩
    rw [List.getElem?_take, if_pos hi] at h1
    simp [h1, h2]
  have hrs : ∀ {i : Nat} {d : Nat} {r : HR}, (rs3.map fun x => (x.1, x.2.1))[i]? = some (d, r) → ∃ S, rs3[i]? = some (d, r, S) := fun {i d r} hx => by
    rw [List.getElem?_map] at hx
    cases hq : rs3[i]? with
    | none => rw [hq] at hx; cases hx
    | some x =>
      rw [hq] at hx
      cases hx
      exact ⟨x.2.2, rfl⟩
  have hnd : ∀ (i j d : Nat) (r r' : HR), (rs3.map fun x => (x.1, x.2.1))[i]? = some (d, r) → (rs3.map fun x => (x.1, x.2.1))[j]? = some (d, r') → i = j := fun i j d r r' hi hj => by
    obtain ⟨S, hi⟩ := hrs hi
    obtain ⟨S', hj⟩ := hrs hj
    obtain ⟨h1, h2⟩ := hdst hi
    obtain ⟨h3, h4⟩ := hdst hj
    obtain ⟨o, ho, _, h5, _⟩ := ssa_spec hs (show j < m + 1 by omega)
    refine h5 i (by omega) ?_
    rw [h2]
    rw [ho] at h4
    exact h4.symm
  have hdne : ∀ {i d r S}, rs3[i]? = some (d, r, S) → d ≠ dA := fun {i d r S} hx e => by
    subst e
    obtain ⟨h1, h2⟩ := hdst hx
    obtain ⟨o, ho, _, h5, _⟩ := ssa_spec hs (show m < m + 1 by omega)
    rw [hoA'] at ho
    cases ho
    have := h5 i (by omega) (by rw [h2, hdA])
    omega
  obtain ⟨hsteps, hfin⟩ := hrun.lk (σ0 := σ) hnd 0 (by simp) ((Lk.start σ _).of_iff fun j => by simp)
  have inv0 : HeadInv .any l.toArray (m + 1) (Array.replicate l.toArray.size false) :=
    ⟨by simp, fun j oj _ hl => (by rw [getD_replicate_false] at hl; cases hl), fun t _ ht => getD_in (by simpa using ht) (getD_replicate_false _ _)⟩
  have hback : ∀ i o, i < m + 1 → l.toArray[i]? = some o → ∀ e ∈ o.after, Region.binds .any e = true → e.on < i := fun i o hi ho => by
    obtain ⟨o', ho', _, _, h1⟩ := ssa_spec hs hi
    rw [ho] at ho'
    cases ho'
    exact h1
  simp only [tailB, Bool.and_eq_true, Bool.or_eq_true, decide_eq_true_eq] at ht
  obtain ⟨htail, hseq⟩ := ht
  -- the place from which the row is taken
  obtain ⟨ri, hri⟩ : ∃ r, (t, r, some (Loc.b k off)) ∈ rs3 := by
    rcases hsl (t, .b k off) List.mem_cons_self with h4 | h4
    · cases h4
    · exact h4
  obtain ⟨it, hit⟩ := List.mem_iff_getElem?.1 hri
  have hitm := (hdst hit).1
  let App : St → St := fun s => appSt s t k off dA i0 (rows ++ rows2) e
  let Inv : Array Bool → Act → World → Prop := fun listed a w => (listed.getD m false = false → ∃ σ1 γ, Rel F σ1 γ a w ∧ Lk σ (rs3.map fun x => (x.1, x.2.1)) (fun j => j < m ∧ listed.getD j false = true) σ1 ∧
    ∀ i d r L, rs3[i]? = some (d, r, some L) → listed.getD i false = true → valAt a w γ L = none ∨ valAt a w γ (.s d) = valAt a w γ L) ∧
    (listed.getD m false = true → ∃ σ1 γ, Rel F (App σ1) γ a w ∧ Lk σ (rs3.map fun x => (x.1, x.2.1)) (fun j => j < m ∧ listed.getD j false = true) σ1)
  have hbxk : ∀ {L : Nat → Prop} {σ1 : St} {k : Nat} {cs : List PV}, Lk σ (rs3.map fun x => (x.1, x.2.1)) L σ1 → look σ.box k = some cs → look σ1.box k = some cs := fun {L σ1 k cs} hl hk => by
    rw [hl.box k (fun j d r _ hj hb e => by
      obtain ⟨S, hj⟩ := hrs hj
      obtain ⟨o, σi, _, h1, _⟩ := hsteps j d r S hj
      have := h1.newbox hb
      rw [e, hk] at this
      cases this)]
    exact hk
  refine wp_region_any hm ?_
  have hcnt : cntU (m + 1) (Array.replicate l.toArray.size false) = m + 1 := by
    have : ∀ q, q ≤ l.length → cntU q (Array.replicate l.toArray.size false) = q := fun q => by
      induction q with
      | zero => intro _; rfl
      | succ q ih =>
        intro hq
        unfold cntU
        rw [ih (by omega)]
        simp [show q < l.length by omega]
    exact this (m + 1) hn
  have hset : ∀ {i : Nat} {listed : Array Bool}, i < l.toArray.size → listed.size = l.toArray.size → ∀ j, (listed.setIfInBounds i true).getD j false = true ↔ listed.getD j false = true ∨ j = i := fun {i listed} hi hls j => by
    by_cases hji : i = j
    · subst hji; simp [hls]; simpa using hi
    · rw [getD_set_ne false hji]; simp [show ¬ j = i from fun e => hji e.symm]
  have goal := any_head (P := P) (Q := fun e a' w' => ∃ x σ' γ', e = AX.exit_ x ∧ Q x σ' ∧ Rel F σ' γ' a' w') (g := l.toArray.size - (m + 1)) (Inv := Inv) (by rw [hsz]; exact hn) hback (by
      rcases htail with h1 | h1
      · exact .inl h1
      · exact .inr ⟨h1.1.1, h1.1.2, h1.2⟩) ?step ?fin (m + 1) _ a w.drew hcnt inv0 ⟨fun _ => ⟨σ, γ, hr.grow (Below.refl _ _).drew, (Lk.start σ _).of_iff fun j => ⟨fun hj => by rw [getD_replicate_false] at hj; exact absurd hj.2 (by simp), fun hj => hj.elim⟩, fun i d r L _ hl => by rw [getD_replicate_false] at hl; cases hl⟩, fun hl => by rw [getD_replicate_false] at hl; cases hl⟩
  · rw [show m + 1 + (l.toArray.size - (m + 1)) = l.toArray.size by rw [hsz]; omega] at goal
    exact goal
  case step =>
    rintro i listed a w hi hready hinv ⟨hI1, hI2⟩
    obtain ⟨hun, o', ho, hall⟩ := mem_ready.1 hready
    obtain ⟨o'', ho', hssa, _, _⟩ := ssa_spec hs hi
    rw [ho] at ho'
    cases ho'
    have hwait : ∀ j, Region.waitsFor .any l.toArray i j = true → listed.getD j false = true := fun j hj => by
      obtain ⟨oj, hoj, e, he, hb, hon⟩ := Region.waitsFor_spec hj
      rw [ho] at hoj
      cases hoj
      rw [← hon]
      exact hall e he hb
    have hisz : i < l.toArray.size := by rw [hsz]; omega
    have hset' := hset hisz hinv.size
    by_cases him : i = m
    · -- the append
      subst him
      have hml : listed.getD i false = false := getD_both hun
      obtain ⟨σ1, γ1, h1, h2, h3⟩ := hI1 hml
      have hoo : o' = oA := by rw [hoA'] at ho; exact (Option.some.inj ho).symm
      subst hoo
      have hfl : ∀ s v, s ∈ o'.looksAt l.toArray → look σ'.slot s = some v → look σ1.slot s = some v := fun s v htm hy => by
        by_cases hex : ∃ j d' r', j < i ∧ (rs3.map fun x => (x.1, x.2.1))[j]? = some (d', r') ∧ d' = s
        · obtain ⟨j, d', r', hj, hjx, rfl⟩ := hex
          obtain ⟨S', hjx'⟩ := hrs hjx
          obtain ⟨hji, hw⟩ := hssa d' htm j (by omega) (hdst hjx').2
          have h7 := (hfin.in_ j d' r' (by rw [hlt]; omega) hjx).1
          rw [h7] at hy
          cases hy
          exact (h2.in_ j d' r' ⟨hj, hwait j hw⟩ hjx).1
        · rw [(hfin.out s fun j d' r' hj hjx e => hex ⟨j, d', r', by rw [hlt] at hj; omega, hjx, e⟩).1] at hy
          rw [(h2.out s fun j d' r' hj hjx e => hex ⟨j, d', r', hj.1, hjx, e⟩).1]
          exact hy
      have hmemt : Operand.tmp t ∈ o'.op.operands.toList := by rw [hopA]; simp [Op.operands, Call.operands, g1]
      have hlooks : t ∈ o'.looksAt l.toArray := mem_looks hmemt
      have hlt2 : look σ1.slot t = some (.sl i0 rows) := hfl t _ hlooks g11
      have hly : evo (look σ1.slot) y = some (.sl i0 rows2) := by
        cases y with
        | tmp s =>
          have : Operand.tmp s ∈ o'.op.operands.toList := by rw [hopA]; simp [Op.operands, Call.operands, g1]
          exact hfl s _ (mem_looks this) g12
        | _ => exact g12
      have hitl : listed.getD it false = true := by
        obtain ⟨_, hw⟩ := hssa t hlooks it (by omega) (hdst hit).2
        exact hwait it hw
      obtain ⟨oi, σi, h5, h6, h7⟩ := hsteps it t ri _ hit
      obtain ⟨hav, _⟩ := h6.src_ _ rfl
      have hkb : ∃ cs, look σ.box k = some cs := by
        cases hq : look σ.box k with
        | none => simp [avOf, hq] at hav
        | some cs => exact ⟨cs, rfl⟩
      obtain ⟨cs, hkb⟩ := hkb
      have hav1 : σ1.avAt (.s t) = σ1.avAt (.b k off) := by
        have e1 : look σ1.slot t = some ri.av := (h2.in_ it t ri ⟨hitm, hitl⟩ (by rw [List.getElem?_map, hit]; rfl)).1
        show look σ1.slot t = ((look σ1.box k).bind (·[off]?)).map PV.av
        rw [e1, hbxk h2 hkb, ← hav]
        show ((look σ.box k).bind (·[off]?)).map PV.av = _
        rw [hkb]
      refine wpOp_mono (fun a' w' hst => ?_) (show wpOp P l.toArray _ i (fun a' w' => ∃ γ', Rel F (App σ1) γ' a' w') a w from by
        unfold wpOp
        rw [ho]
        dsimp only
        rw [show Region.wanted o' (yielded l.toArray a.tmps) = true from by unfold Region.wanted; rw [hgA], if_pos rfl]
        exact .inl (appB_ok h1 hopA hdA g1 g2 g3 g4 g5 g6 g7 g8 g9 ((h2.cell k off).trans ((hfin.cell k off).symm.trans g10)) hlt2 hly g13 hav1 (fun hne => (h3 it t ri _ hit hitl).resolve_left hne) _))
      obtain ⟨γ', hr'⟩ := hst
      refine ⟨fun hm' => absurd ((hset' i).2 (.inr rfl)) (by rw [hm']; simp), fun _ => ⟨σ1, γ', hr', h2.of_iff fun j => ?_⟩⟩
      rw [hset']
      constructor
      · rintro ⟨h8, h9 | rfl⟩
        · exact ⟨h8, h9⟩
        · exact absurd h8 (Nat.lt_irrefl _)
      · rintro ⟨h8, h9⟩; exact ⟨h8, .inl h9⟩
    · have him' : i < m := by omega
      have hx : ∃ x, rs3[i]? = some x := ⟨rs3[i]'(by rw [hlen]; exact him'), List.getElem?_eq_getElem _⟩
      obtain ⟨⟨d, r, S⟩, hx⟩ := hx
      obtain ⟨o2, σi, h4, h5, h6⟩ := hsteps i d r S hx
      have : o2 = o' := by
        rw [List.getElem?_take, if_pos him'] at h4
        have h7 : l.toArray[i]? = l[i]? := by simp
        rw [h7, h4] at ho
        exact Option.some.inj ho
      subst this
      have hmap : (rs3.map fun x => (x.1, x.2.1))[i]? = some (d, r) := by rw [List.getElem?_map, hx]; rfl
      have hops0 : ∀ {σ1 : St}, Lk σ (rs3.map fun x => (x.1, x.2.1)) (fun j => j < m ∧ listed.getD j false = true) σ1 → ∀ s v, s ∈ o2.looksAt l.toArray → look σi.slot s = some v → look σ1.slot s = some v := fun {σ1} h2 s v htm hy => by
        by_cases hex : ∃ j d' r', j < m ∧ (rs3.map fun x => (x.1, x.2.1))[j]? = some (d', r') ∧ d' = s
        · obtain ⟨j, d', r', hj, hjx, rfl⟩ := hex
          obtain ⟨S', hjx'⟩ := hrs hjx
          obtain ⟨hji, hw⟩ := hssa d' htm j (by omega) (hdst hjx').2
          have h7 := (h6.in_ j d' r' (by omega) hjx).1
          rw [h7] at hy
          cases hy
          exact (h2.in_ j d' r' ⟨hj, hwait j hw⟩ hjx).1
        · rw [(h6.out s fun j d' r' hj hjx e => hex ⟨j, d', r', by omega, hjx, e⟩).1] at hy
          rw [(h2.out s fun j d' r' hj hjx e => hex ⟨j, d', r', hj.1, hjx, e⟩).1]
          exact hy
      have hLi : ¬ (i < m ∧ listed.getD i false = true) := fun h => by rw [getD_both hun] at h; exact absurd h.2 (by simp)
      have hnone0 : ∀ {σ1 : St}, Lk σ (rs3.map fun x => (x.1, x.2.1)) (fun j => j < m ∧ listed.getD j false = true) σ1 → look σ.box d = none → look σ1.box d = none := fun {σ1} h2 hd => by
        rw [h2.box d (fun j d' r' hj hjx _ e => by
          subst e
          have := hnd i j d' r r' hmap hjx
          subst this
          exact hLi hj)]
        exact hd
      have hmi : (listed.setIfInBounds i true).getD m false = listed.getD m false := getD_set_ne false him
      cases hml : listed.getD m false with
      | false =>
        obtain ⟨σ1, γ1, h1, h2, h3⟩ := hI1 hml
        refine wpOp_mono (fun a' w' hst => ?_) (h5.run σ1 γ1 a w h1 (hops0 h2) (fun k cs hk => hbxk h2 hk) (hnone0 h2) (h2.ext.trans h6.ext.symm) _ i ho)
        obtain ⟨γ', u, rfl, e2, e3, e4, e5⟩ := hst
        have hd' : d < a.tmps.size := by rw [h1.size]; exact h5.lt
        refine ⟨fun _ => ⟨_, γ', e4, (h2.step hnd hmap hLi).of_iff fun j => ?_, fun q dm rm L hmx hlm => ?_⟩, fun hc => (by rw [hmi, hml] at hc; cases hc)⟩
        · rw [hset']
          constructor
          · rintro ⟨h7, h8 | rfl⟩
            · exact .inl ⟨h7, h8⟩
            · exact .inr rfl
          · rintro (⟨h7, h8⟩ | rfl)
            · exact ⟨h7, .inl h8⟩
            · exact ⟨him', .inr rfl⟩
        · obtain ⟨om, σm, hm1, hm2, hm3⟩ := hsteps q dm rm (some L) hmx
          obtain ⟨hav, hlooks⟩ := hm2.src_ L rfl
          have hkeep : (∀ t, L = .s t → d ≠ t) → valAt (a.put (some d) u) w' γ' L = valAt a w γ1 L := fun hne => by
            cases L with
            | s t => simp [valAt, getD_put hd', hne t rfl]
            | b k off =>
              have hk : ∃ cs, look σ.box k = some cs := by
                cases hq : look σ.box k with
                | none => simp [avOf, hq] at hav
                | some cs => exact ⟨cs, rfl⟩
              obtain ⟨cs, hk⟩ := hk
              have hk1 : (look σ1.box k).isSome := by rw [hbxk h2 hk]; rfl
              show w'.cell? ⟨γ'.bx k, off, none⟩ = w.cell? ⟨γ1.bx k, off, none⟩
              rw [e3 k hk1]
              exact e2.cell (p := ⟨γ1.bx k, off, none⟩) (h1.box_lt hk1).1
          have hmn : q < m := (hdst hmx).1
          rcases (hset' q).1 hlm with hlm | rfl
          · have hdm : d ≠ dm := fun e => by
              subst e
              have := hnd i q d r rm hmap (by rw [List.getElem?_map, hmx]; rfl)
              subst this
              exact hLi ⟨him', hlm⟩
            have hne : ∀ t, L = .s t → d ≠ t := fun t ht e => by
              subst e
              obtain ⟨om', hom', hss, _, _⟩ := ssa_spec hs (show q < m + 1 by omega)
              have : om' = om := by
                rw [List.getElem?_take, if_pos hmn] at hm1
                have h7 : l.toArray[q]? = l[q]? := by simp
                rw [h7, hm1] at hom'
                exact (Option.some.inj hom').symm
              subst this
              obtain ⟨_, hw⟩ := hss d (hlooks d ht) i hi (hdst hx).2
              obtain ⟨oj, hoj, e, he, hb, hon⟩ := Region.waitsFor_spec hw
              have := hinv.closed q oj hoj hlm e he hb
              rw [hon, getD_both hun] at this
              cases this
            rw [hkeep hne, show valAt (a.put (some d) u) w' γ' (.s dm) = valAt a w γ1 (.s dm) by simp [valAt, getD_put hd', hdm]]
            exact h3 q dm rm L hmx hlm
          · rw [hx] at hmx
            cases hmx
            have hne : ∀ t, L = .s t → d ≠ t := fun t ht e => by
              subst e
              obtain ⟨om', hom', hss, _, _⟩ := ssa_spec hs (show q < m + 1 by omega)
              have : om' = om := by
                rw [List.getElem?_take, if_pos hmn] at hm1
                have h7 : l.toArray[q]? = l[q]? := by simp
                rw [h7, hm1] at hom'
                exact (Option.some.inj hom').symm
              subst this
              exact absurd (hss d (hlooks d ht) q (by omega) (hdst hx).2).1 (Nat.lt_irrefl _)
            rw [hkeep hne]
            rcases e5 L rfl with h7 | h7
            · right
              rw [h7]
              simp [valAt, getD_put hd']
            · exact .inl h7
      | true =>
        obtain ⟨σ1, γ1, h1, h2⟩ := hI2 hml
        have hddA := hdne hx
        have hlookA : ∀ s, s ∈ o2.looksAt l.toArray → s ≠ dA := fun s hsl e => by
          subst e
          have := (hssa s hsl m (by omega) (by rw [hoA', Option.bind_some, hdA])).1
          omega
        have hdt : d ≠ t := fun e => by
          subst e
          have := hnd i it d r ri hmap (by rw [List.getElem?_map, hit]; rfl)
          subst this
          obtain ⟨oj, hoj, e, he, hb, hon⟩ := Region.waitsFor_spec (show Region.waitsFor .any l.toArray m i = true from by
            obtain ⟨om, hom, hss, _, _⟩ := ssa_spec hs (show m < m + 1 by omega)
            rw [hoA'] at hom
            cases hom
            exact (hss d (mem_looks (by rw [hopA]; simp [Op.operands, Call.operands, g1])) i (by omega) (hdst hx).2).2)
          have := hinv.closed m oj hoj hml e he hb
          rw [hon, getD_both hun] at this
          cases this
        refine wpOp_mono (fun a' w' hst => ?_) (h5.run (App σ1) γ1 a w h1 (fun s v hsl hv => by
          show look (appSt σ1 t k off dA i0 (rows ++ rows2) e).slot s = some v
          rw [appSt_slot, if_neg (fun e => hlookA s hsl e.symm)]
          exact hops0 h2 s v hsl hv) (fun k cs hk => (show look σ1.box k = some cs from hbxk h2 hk)) (fun hd => (show look σ1.box d = none from hnone0 h2 hd)) (h2.ext.trans h6.ext.symm) _ i ho)
        obtain ⟨γ', u, rfl, e2, e3, e4, e5⟩ := hst
        refine ⟨fun hc => (by rw [hmi, hml] at hc; cases hc), fun _ => ⟨σ1.res d r, γ', e4.congr (fun s => ?_) (fun b => ?_) (fun M => ?_) ?_, (h2.step hnd hmap hLi).of_iff fun j => ?_⟩⟩
        · show look (appSt _ _ _ _ _ _ _ _).slot s = look ((appSt _ _ _ _ _ _ _ _).res d r).slot s
          rw [appSt_slot, res_slot, res_slot, appSt_slot]
          by_cases e1 : dA = s
          · subst e1; rw [if_pos rfl, if_neg hddA, if_pos rfl]
          · rw [if_neg e1, if_neg e1]
        · show look (appSt _ _ _ _ _ _ _ _).box b = look ((appSt _ _ _ _ _ _ _ _).res d r).box b
          rw [res_box]
          show look (σ1.res d r).box b = _
          rw [res_box]
          rfl
        · show lookL (appSt _ _ _ _ _ _ _ _).own M = lookL ((appSt _ _ _ _ _ _ _ _).res d r).own M
          rw [appSt_own, res_own, res_own, appSt_own]
          by_cases e1 : M = .s d
          · subst e1
            rw [if_pos rfl, if_pos rfl, if_neg (by simpa using hddA), if_neg (by simpa using hdt), if_neg (by simp)]
          · rw [if_neg e1, if_neg e1]
        · show (σ1.res d r).ext = ((appSt _ _ _ _ _ _ _ _).res d r).ext
          rw [res_ext, res_ext]
          rfl
        · rw [hset']
          constructor
          · rintro ⟨h7, h8 | rfl⟩
            · exact .inl ⟨h7, h8⟩
            · exact .inr rfl
          · rintro (⟨h7, h8⟩ | rfl)
            · exact ⟨h7, .inl h8⟩
            · exact ⟨him', .inr rfl⟩
  case fin =>
    rintro listed a w hinv hdone ⟨_, hI2⟩
    have hdone' : ∀ i, i < m + 1 → listed.getD i false = true := fun i hi => by
      have h4 := hdone i hi
      have hs : i < listed.size := by rw [hinv.size, hsz]; omega
      simp [hs] at h4 ⊢
      exact h4
    obtain ⟨σ1, γ1, h1, h2⟩ := hI2 (hdone' m (by omega))
    have hLk : Lk σ (rs3.map fun x => (x.1, x.2.1)) (· < 0 + (l.take m).length) σ1 := h2.of_iff fun j => by
      rw [hlt]
      constructor
      · intro h4; exact ⟨by omega, hdone' j (by omega)⟩
      · intro h4; omega
    obtain ⟨q1, q2, q3, q4⟩ := hLk.same hfin
    have hrel : Rel F (App σ') γ1 a w := h1.congr (fun s => by
        show look (appSt _ _ _ _ _ _ _ _).slot s = look (appSt _ _ _ _ _ _ _ _).slot s
        rw [appSt_slot, appSt_slot, q1]) q2 (fun M => by
        show lookL (appSt _ _ _ _ _ _ _ _).own M = lookL (appSt _ _ _ _ _ _ _ _).own M
        rw [appSt_own, appSt_own, q3]) q4
    have hlisted : listed = doneA (m + 1) l.toArray.size := by
      apply Array.ext
      · rw [hinv.size]; simp [doneA]
      · intro i hi1 hi2
        have hil : i < l.toArray.size := by rw [← hinv.size]; exact hi1
        have : (doneA (m + 1) l.toArray.size)[i] = decide (i < m + 1) := by simp [doneA]
        rw [this]
        by_cases hin : i < m + 1
        · have := hdone' i hin
          simp [hi1] at this
          rw [this]; simp [hin]
        · have := hinv.tail i (by omega) hil
          simp [hi1] at this
          rw [this]; simp [hin]
    have hwl := sops_ok (P := P) (F := F) (Q := fun e a' w' => ∃ x σ' γ', e = AX.exit_ x ∧ Q x σ' ∧ Rel F σ' γ' a' w') (fun σ'' γ'' a'' w'' hq hr'' => ⟨.normal, σ'', γ'', rfl, hq, hr''⟩) (l.drop (m + 1)) _ γ1 a w hrel hK
    have hdl : (l.drop (m + 1)).length = l.toArray.size - (m + 1) := by simp
    have := wpAny_of_seq (md := .any) (Q' := fun e a' w' => ∃ x σ' γ', e = AX.exit_ x ∧ Q x σ' ∧ Rel F σ' γ' a' w') (ops := l.toArray) (l.drop (m + 1)) (m + 1) listed a w (fun j => by simp [List.getElem?_drop]) (by rw [hdl, hlisted]; exact hseq) hwl
    rwa [hdl] at this
/-- The same, for a walk. -/
theorem awp_drawA' {id : Nat} {l l1 l2 : List Oper} {Q : AX → St → Prop} {σ : St} (st : List Nat) (m : Nat) {oA : Oper} {dA : Nat} {args : Array Operand} {ats : Array TypeId} (hm : P.follows .mixedOrders = true) (hc : (decide (m + 1 ≤ l.length) && ssaB l.toArray (m + 1) && tailB l.toArray (m + 1)) = true) (hoA : l[m]? = some oA) (hopA : oA.op = .call { callee := .builtin .append, args, argTypes := ats }) (hdA : oA.dst = some dA) (hgA : oA.guard = none) (h1 : l.take m = l1) (h2 : l.drop (m + 1) = l2)
    (h : ∀ bx0 : Nat → Option (List PV), bx0 = look σ.box → headW P F.n st l.toArray bx0 l1 σ [] fun σ1 sl => appB P F.n σ1 sl { callee := .builtin .append, args, argTypes := ats } dA fun σ2 => sops P F.n st l.toArray l2 σ2 (Q .normal)) : AWp P F (Code.region id l.toArray true) Q σ := by
  simp only [Bool.and_eq_true, decide_eq_true_eq] at hc
  refine awp_drawA st m (cA := { callee := .builtin .append, args, argTypes := ats }) hm hc.1.1 hc.1.2 hc.2 hoA hopA hdA hgA ?_
  rw [h1, h2]
  exact h _ rfl
end
end Av
end Go.Proofs.Ytkdigdnacggknaa
