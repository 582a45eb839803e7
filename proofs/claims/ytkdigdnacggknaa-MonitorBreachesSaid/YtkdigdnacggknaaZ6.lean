import Derived.Laws.EntriesVeiled
import Derived.WideKeyPair
import Derived.Deep.CutBlock
import Derived.Test.YtkdigdnacggknaaZ5
set_option linter.unusedVariables false
set_option linter.unusedSimpArgs false
/- Abstract states: a region that draws its order, whose head ends with an append onto a row that a box owns: 'p.f = append(p.f, x)'. Generic. -/
namespace Go.Proofs.Ytkdigdnacggknaa
open Go.RowKit
namespace Av

/-- Behind such an append: the row belongs to slot d. -/
def appSt (σ : St) (t k off d i : Nat) (rows : List (List PV)) (e : TypeId) : St :=
  { slot := (d, .sl i rows) :: σ.slot, box := σ.box, own := (.s d, (e, i)) :: delL (delL (delL σ.own (.b k off)) (.s t)) (.s d), ext := σ.ext }
/-- What such an append asks. -/
def appB (P : Program) (n : Nat) (σ : St) (sl : List (Nat × Loc)) (c : Call) (d : Nat) (K : St → Prop) : Prop :=
  ∃ t k off y T e i z rows rows2, sl = [(t, .b k off)] ∧ c.args.toList = [.tmp t, y] ∧ c.argTypes.toList = [T, T] ∧ P.underlying T = some (.slice e) ∧ (P.info? e).map (·.size) = some i ∧ 0 < i ∧ (P.info? e).map (·.zero) = some (some z) ∧ z.cells.size = i ∧ ((P.info? e).map fun j => decide (j.bytes ≤ 1000000)) = some true ∧ d < n ∧
    lookL σ.own (.b k off) = some (e, i) ∧ look σ.slot t = some (.sl i rows) ∧ (evo (look σ.slot) y = some (.sl i rows2)) ∧ rows.length + rows2.length ≤ 100000000 ∧ K (appSt σ t k off d i (rows ++ rows2) e)
theorem appSt_own {σ : St} {t k off d i : Nat} {rows : List (List PV)} {e : TypeId} (M : Loc) : lookL (appSt σ t k off d i rows e).own M = if M = .s d then some (e, i) else if M = .s t then none else if M = .b k off then none else lookL σ.own M := by
  unfold appSt
  dsimp only
  rw [lookL_cons, lookL_del, lookL_del, lookL_del]
  by_cases h : M = .s d
  · subst h; simp
  · rw [if_neg (fun e => h e.symm), if_neg h, if_neg h]
theorem appSt_slot {σ : St} {t k off d i : Nat} {rows : List (List PV)} {e : TypeId} (s : Nat) : look (appSt σ t k off d i rows e).slot s = if d = s then some (.sl i rows) else look σ.slot s := rfl
/-- The append itself. -/
theorem appB_ok {P : Program} {F : Fr} {σ : St} {γ : Gh} {a : Act} {w : World} {o : Oper} {d : Nat} {c : Call} (h : Rel F σ γ a w) (ho : o.op = .call { callee := .builtin .append, args := c.args, argTypes := c.argTypes }) (hd : o.dst = some d) {t k off i : Nat} {y : Operand} {T e : TypeId} {z : Value} {rows rows2 : List (List PV)}
    (h1 : c.args.toList = [.tmp t, y]) (h2 : c.argTypes.toList = [T, T]) (h3 : P.underlying T = some (.slice e)) (h4 : (P.info? e).map (·.size) = some i) (h5 : 0 < i) (h6 : (P.info? e).map (·.zero) = some (some z)) (h7 : z.cells.size = i) (h8 : ((P.info? e).map fun j => decide (j.bytes ≤ 1000000)) = some true) (h9 : d < F.n)
    (h10 : lookL σ.own (.b k off) = some (e, i)) (h11 : look σ.slot t = some (.sl i rows)) (h12 : evo (look σ.slot) y = some (.sl i rows2)) (h13 : rows.length + rows2.length ≤ 100000000) (hav : σ.avAt (.s t) = σ.avAt (.b k off)) (hval : valAt a w γ (.b k off) ≠ none → valAt a w γ (.s t) = valAt a w γ (.b k off)) (Q : Exit → Act → World → Prop) :
    o.wp P a w (fun a' w' => ∃ γ', Rel F (appSt σ t k off d i (rows ++ rows2) e) γ' a' w') Q := by
  obtain ⟨γ1, _, hr1⟩ := h.stealSt (D := .s t) (S := .b k off) (fun _ _ => hav) hval
  have hst : stealSt σ (.s t) (.b k off) = { σ with own := (.s t, (e, i)) :: delL (delL σ.own (.b k off)) (.s t) } := by unfold stealSt; rw [h10]
  rw [hst] at hr1
  refine Oper.wp_mono (fun a' w' hq => ?_) (append_ok (K := fun σ' => σ' = ({ slot := σ.slot, box := σ.box, own := delS ((.s t, (e, i)) :: delL (delL σ.own (.b k off)) (.s t)) (some t), ext := σ.ext } : St).putOwn d i (rows ++ rows2) e) hr1 ho hd ⟨.tmp t, y, T, e, i, z, rows, rows2, some t, h1, h2, h3, h4, h5, h6, h7, h8, h9, .inr ⟨t, rfl, rfl, by rw [lookL_cons, if_pos rfl], h11⟩, .inl h12, h13, rfl⟩ Q)
  obtain ⟨σ', γ', rfl, hr'⟩ := hq
  refine ⟨γ', hr'.congr (fun s => rfl) (fun s => rfl) (fun M => ?_) rfl⟩
  rw [appSt_own]
  unfold St.putOwn delS
  dsimp only
  simp only [lookL_cons, lookL_del]
  by_cases e1 : M = .s d
  · subst e1; simp
  · have e1' : ¬ Loc.s d = M := fun e => e1 e.symm
    rw [if_neg e1, if_neg e1', if_neg e1]
    by_cases e2 : M = .s t
    · rw [if_pos e2, if_pos e2]
    · have e2' : ¬ Loc.s t = M := fun e => e2 e.symm
      rw [if_neg e2, if_neg e2, if_neg e2']

section
variable {P : Program} {F : Fr} {ops : Array Oper} {bx0 : Nat → Option (List PV)}
theorem awp_drawA {id : Nat} {l : List Oper} {Q : AX → St → Prop} {σ : St} (st : List Nat) (m : Nat) {oA : Oper} {dA : Nat} {cA : Call} (hm : P.follows .mixedOrders = true) (hn : m + 1 ≤ l.length) (hs : ssaB l.toArray (m + 1) = true) (ht : tailB l.toArray (m + 1) = true)
    (hoA : l[m]? = some oA) (hopA : oA.op = .call { callee := .builtin .append, args := cA.args, argTypes := cA.argTypes }) (hdA : oA.dst = some dA) (hgA : oA.guard = none)
    (h : headW P F.n st l.toArray (look σ.box) (l.take m) σ [] fun σ1 sl => appB P F.n σ1 sl cA dA fun σ2 => sops P F.n st l.toArray (l.drop (m + 1)) σ2 (Q .normal)) : AWp P F (Code.region id l.toArray true) Q σ := by
  intro γ a w hr
  obtain ⟨rs3, σ', sl, hrun, hK, hsl⟩ := headW_run h
  obtain ⟨t, k, off, y, T, e, i0, z, rows, rows2, hslE, g1, g2, g3, g4, g5, g6, g7, g8, g9, g10, g11, g12, g13, hK⟩ := hK
  subst hslE
  have hsz : l.toArray.size = l.length := by simp
  have hlt : (l.take m).length = m := by simp; omega
  have hlen : rs3.length = m := by rw [hrun.length, hlt]
  have hoA' : l.toArray[m]? = some oA := by simpa using hoA
  have hdst : ∀ {i d r S}, rs3[i]? = some (d, r, S) → i < m ∧ (l.toArray[i]?).bind (·.dst) = some d := fun {i d r S} hx => by
    obtain ⟨o, h1, h2⟩ := hrun.dst hx
    have hi : i < m := by rw [← hlen]; exact (List.getElem?_eq_some_iff.1 hx).1
    refine ⟨hi, ?_⟩
    rw [List.getElem?_take, if_pos hi] at h1
    simp [h1, h2]
  have hrs : ∀ {i : Nat} {d : Nat} {r : HR}, (rs3.map fun x => (x.1, x.2.1))[i]? = some (d, r) → ∃ S, rs3[i]? = some (d, r, S) := fun {i d r} hx => by
    rw [List.getElem?_map] at hx
    cases hq : rs3[i]? with
    | none => rw [hq] at hx; cases hx
    | some x =>
      rw [hq] at hx
      cases hx
      exact ⟨x.2.2, rfl⟩
  have hnd : ∀ (i j d : Nat) (r r' : HR), (rs3.map fun x => (x.1, x.2.1))[i]? = some (d, r) → (rs3.map fun x => (x.1, x.2.1))[j]? = some (d, r') → i = j := fun i j d r r' hi hj => by
    obtain ⟨S, hi⟩ := hrs hi
    obtain ⟨S', hj⟩ := hrs hj
    obtain ⟨h1, h2⟩ := hdst hi
    obtain ⟨h3, h4⟩ := hdst hj
    obtain ⟨o, ho, _, h5, _⟩ := ssa_spec hs (show j < m + 1 by omega)
    refine h5 i (by omega) ?_
    rw [h2]
    rw [ho] at h4
    exact h4.symm
  have hdne : ∀ {i d r S}, rs3[i]? = some (d, r, S) → d ≠ dA := fun {i d r S} hx e => by
    subst e
    obtain ⟨h1, h2⟩ := hdst hx
    obtain ⟨o, ho, _, h5, _⟩ := ssa_spec hs (show m < m + 1 by omega)
    rw [hoA'] at ho
    cases ho
    have := h5 i (by omega) (by rw [h2, hdA])
    omega
  obtain ⟨hsteps, hfin⟩ := hrun.lk (σ0 := σ) hnd 0 (by simp) ((Lk.start σ _).of_iff fun j => by simp)
  have inv0 : HeadInv .any l.toArray (m + 1) (Array.replicate l.toArray.size false) :=
    ⟨by simp, fun j oj _ hl => (by rw [getD_replicate_false] at hl; cases hl), fun t _ ht => getD_in (by simpa using ht) (getD_replicate_false _ _)⟩
  have hback : ∀ i o, i < m + 1 → l.toArray[i]? = some o → ∀ e ∈ o.after, Region.binds .any e = true → e.on < i := fun i o hi ho => by
    obtain ⟨o', ho', _, _, h1⟩ := ssa_spec hs hi
    rw [ho] at ho'
    cases ho'
    exact h1
  simp only [tailB, Bool.and_eq_true, Bool.or_eq_true, decide_eq_true_eq] at ht
  obtain ⟨htail, hseq⟩ := ht
  -- the place from which the row is taken
  obtain ⟨ri, hri⟩ : ∃ r, (t, r, some (Loc.b k off)) ∈ rs3 := by
    rcases hsl (t, .b k off) List.mem_cons_self with h4 | h4
    · cases h4
    · exact h4
  obtain ⟨it, hit⟩ := List.mem_iff_getElem?.1 hri
  have hitm := (hdst hit).1
  let App : St → St := fun s => appSt s t k off dA i0 (rows ++ rows2) e
  let Inv : Array Bool → Act → World → Prop := fun listed a w => (listed.getD m false = false → ∃ σ1 γ, Rel F σ1 γ a w ∧ Lk σ (rs3.map fun x => (x.1, x.2.1)) (fun j => j < m ∧ listed.getD j false = true) σ1 ∧
    ∀ i d r L, rs3[i]? = some (d, r, some L) → listed.getD i false = true → valAt a w γ L = none ∨ valAt a w γ (.s d) = valAt a w γ L) ∧
    (listed.getD m false = true → ∃ σ1 γ, Rel F (App σ1) γ a w ∧ Lk σ (rs3.map fun x => (x.1, x.2.1)) (fun j => j < m ∧ listed.getD j false = true) σ1)
  have hbxk : ∀ {L : Nat → Prop} {σ1 : St} {k : Nat} {cs : List PV}, Lk σ (rs3.map fun x => (x.1, x.2.1)) L σ1 → look σ.box k = some cs → look σ1.box k = some cs := fun {L σ1 k cs} hl hk => by
    rw [hl.box k (fun j d r _ hj hb e => by
      obtain ⟨S, hj⟩ := hrs hj
      obtain ⟨o, σi, _, h1, _⟩ := hsteps j d r S hj
      have := h1.newbox hb
      rw [e, hk] at this
      cases this)]
    exact hk
  refine wp_region_any hm ?_
  have hcnt : cntU (m + 1) (Array.replicate l.toArray.size false) = m + 1 := by
    have : ∀ q, q ≤ l.length → cntU q (Array.replicate l.toArray.size false) = q := fun q => by
      induction q with
      | zero => intro _; rfl
      | succ q ih =>
        intro hq
        unfold cntU
        rw [ih (by omega)]
        simp [show q < l.length by omega]
    exact this (m + 1) hn
  have hset : ∀ {i : Nat} {listed : Array Bool}, i < l.toArray.size → listed.size = l.toArray.size → ∀ j, (listed.setIfInBounds i true).getD j false = true ↔ listed.getD j false = true ∨ j = i := fun {i listed} hi hls j => by
    by_cases hji : i = j
    · subst hji; simp [hls]; simpa using hi
    · rw [getD_set_ne false hji]; simp [show ¬ j = i from fun e => hji e.symm]
  have goal := any_head (P := P) (Q := fun e a' w' => ∃ x σ' γ', e = AX.exit_ x ∧ Q x σ' ∧ Rel F σ' γ' a' w') (g := l.toArray.size - (m + 1)) (Inv := Inv) (by rw [hsz]; exact hn) hback (by
      rcases htail with h1 | h1
      · exact .inl h1
      · exact .inr ⟨h1.1.1, h1.1.2, h1.2⟩) ?step ?fin (m + 1) _ a w.drew hcnt inv0 ⟨fun _ => ⟨σ, γ, hr.grow (Below.refl _ _).drew, (Lk.start σ _).of_iff fun j => ⟨fun hj => by rw [getD_replicate_false] at hj; exact absurd hj.2 (by simp), fun hj => hj.elim⟩, fun i d r L _ hl => by rw [getD_replicate_false] at hl; cases hl⟩, fun hl => by rw [getD_replicate_false] at hl; cases hl⟩
  · rw [show m + 1 + (l.toArray.size - (m + 1)) = l.toArray.size by rw [hsz]; omega] at goal
    exact goal
  case step =>
    rintro i listed a w hi hready hinv ⟨hI1, hI2⟩
    obtain ⟨hun, o', ho, hall⟩ := mem_ready.1 hready
    obtain ⟨o'', ho', hssa, _, _⟩ := ssa_spec hs hi
    rw [ho] at ho'
    cases ho'
    have hwait : ∀ j, Region.waitsFor .any l.toArray i j = true → listed.getD j false = true := fun j hj => by
      obtain ⟨oj, hoj, e, he, hb, hon⟩ := Region.waitsFor_spec hj
      rw [ho] at hoj
      cases hoj
      rw [← hon]
      exact hall e he hb
    have hisz : i < l.toArray.size := by rw [hsz]; omega
    have hset' := hset hisz hinv.size
    by_cases him : i = m
    · -- the append
      subst him
      have hml : listed.getD i false = false := getD_both hun
      obtain ⟨σ1, γ1, h1, h2, h3⟩ := hI1 hml
      have hoo : o' = oA := by rw [hoA'] at ho; exact (Option.some.inj ho).symm
      subst hoo
      have hfl : ∀ s v, s ∈ o'.looksAt l.toArray → look σ'.slot s = some v → look σ1.slot s = some v := fun s v htm hy => by
        by_cases hex : ∃ j d' r', j < i ∧ (rs3.map fun x => (x.1, x.2.1))[j]? = some (d', r') ∧ d' = s
        · obtain ⟨j, d', r', hj, hjx, rfl⟩ := hex
          obtain ⟨S', hjx'⟩ := hrs hjx
          obtain ⟨hji, hw⟩ := hssa d' htm j (by omega) (hdst hjx').2
          have h7 := (hfin.in_ j d' r' (by rw [hlt]; omega) hjx).1
          rw [h7] at hy
          cases hy
          exact (h2.in_ j d' r' ⟨hj, hwait j hw⟩ hjx).1
        · rw [(hfin.out s fun j d' r' hj hjx e => hex ⟨j, d', r', by rw [hlt] at hj; omega, hjx, e⟩).1] at hy
          rw [(h2.out s fun j d' r' hj hjx e => hex ⟨j, d', r', hj.1, hjx, e⟩).1]
          exact hy
      have hmemt : Operand.tmp t ∈ o'.op.operands.toList := by rw [hopA]; simp [Op.operands, Call.operands, g1]
      have hlooks : t ∈ o'.looksAt l.toArray := mem_looks hmemt
      have hlt2 : look σ1.slot t = some (.sl i0 rows) := hfl t _ hlooks g11
      have hly : evo (look σ1.slot) y = some (.sl i0 rows2) := by
        cases y with
        | tmp s =>
          have : Operand.tmp s ∈ o'.op.operands.toList := by rw [hopA]; simp [Op.operands, Call.operands, g1]
          exact hfl s _ (mem_looks this) g12
        | _ => exact g12
      have hitl : listed.getD it false = true := by
        obtain ⟨_, hw⟩ := hssa t hlooks it (by omega) (hdst hit).2
        exact hwait it hw
      obtain ⟨oi, σi, h5, h6, h7⟩ := hsteps it t ri _ hit
      obtain ⟨hav, _⟩ := h6.src_ _ rfl
      have hkb : ∃ cs, look σ.box k = some cs := by
        cases hq : look σ.box k with
        | none => simp [avOf, hq] at hav
        | some cs => exact ⟨cs, rfl⟩
      obtain ⟨cs, hkb⟩ := hkb
      have hav1 : σ1.avAt (.s t) = σ1.avAt (.b k off) := by
        have e1 : look σ1.slot t = some ri.av := (h2.in_ it t ri ⟨hitm, hitl⟩ (by rw [List.getElem?_map, hit]; rfl)).1
        show look σ1.slot t = ((look σ1.box k).bind (·[off]?)).map PV.av
        rw [e1, hbxk h2 hkb, ← hav]
        show ((look σ.box k).bind (·[off]?)).map PV.av = _
        rw [hkb]
      refine wpOp_mono (fun a' w' hst => ?_) (show wpOp P l.toArray _ i (fun a' w' => ∃ γ', Rel F (App σ1) γ' a' w') a w from by
        unfold wpOp
        rw [ho]
        dsimp only
        rw [show Region.wanted o' (yielded l.toArray a.tmps) = true from by unfold Region.wanted; rw [hgA], if_pos rfl]
        exact .inl (appB_ok h1 hopA hdA g1 g2 g3 g4 g5 g6 g7 g8 g9 ((h2.cell k off).trans ((hfin.cell k off).symm.trans g10)) hlt2 hly g13 hav1 (fun hne => (h3 it t ri _ hit hitl).resolve_left hne) _))
      obtain ⟨γ', hr'⟩ := hst
      refine ⟨fun hm' => absurd ((hset' i).2 (.inr rfl)) (by rw [hm']; simp), fun _ => ⟨σ1, γ', hr', h2.of_iff fun j => ?_⟩⟩
      rw [hset']
      constructor
      · rintro ⟨h8, h9 | rfl⟩
        · exact ⟨h8, h9⟩
        · exact absurd h8 (Nat.lt_irrefl _)
      · rintro ⟨h8, h9⟩; exact ⟨h8, .inl h9⟩
    · have him' : i < m := by omega
      have hx : ∃ x, rs3[i]? = some x := ⟨rs3[i]'(by rw [hlen]; exact him'), List.getElem?_eq_getElem _⟩
      obtain ⟨⟨d, r, S⟩, hx⟩ := hx
      obtain ⟨o2, σi, h4, h5, h6⟩ := hsteps i d r S hx
      have : o2 = o' := by
        rw [List.getElem?_take, if_pos him'] at h4
        have h7 : l.toArray[i]? = l[i]? := by simp
        rw [h7, h4] at ho
        exact Option.some.inj ho
      subst this
      have hmap : (rs3.map fun x => (x.1, x.2.1))[i]? = some (d, r) := by rw [List.getElem?_map, hx]; rfl
      have hops0 : ∀ {σ1 : St}, Lk σ (rs3.map fun x => (x.1, x.2.1)) (fun j => j < m ∧ listed.getD j false = true) σ1 → ∀ s v, s ∈ o2.looksAt l.toArray → look σi.slot s = some v → look σ1.slot s = some v := fun {σ1} h2 s v htm hy => by
        by_cases hex : ∃ j d' r', j < m ∧ (rs3.map fun x => (x.1, x.2.1))[j]? = some (d', r') ∧ d' = s
        · obtain ⟨j, d', r', hj, hjx, rfl⟩ := hex
          obtain ⟨S', hjx'⟩ := hrs hjx
          obtain ⟨hji, hw⟩ := hssa d' htm j (by omega) (hdst hjx').2
          have h7 := (h6.in_ j d' r' (by omega) hjx).1
          rw [h7] at hy
          cases hy
          exact (h2.in_ j d' r' ⟨hj, hwait j hw⟩ hjx).1
        · rw [(h6.out s fun j d' r' hj hjx e => hex ⟨j, d', r', by omega, hjx, e⟩).1] at hy
          rw [(h2.out s fun j d' r' hj hjx e => hex ⟨j, d', r', hj.1, hjx, e⟩).1]
          exact hy
      have hLi : ¬ (i < m ∧ listed.getD i false = true) := fun h => by rw [getD_both hun] at h; exact absurd h.2 (by simp)
      have hnone0 : ∀ {σ1 : St}, Lk σ (rs3.map fun x => (x.1, x.2.1)) (fun j => j < m ∧ listed.getD j false = true) σ1 → look σ.box d = none → look σ1.box d = none := fun {σ1} h2 hd => by
        rw [h2.box d (fun j d' r' hj hjx _ e => by
          subst e
          have := hnd i j d' r r' hmap hjx
          subst this
          exact hLi hj)]
        exact hd
      have hmi : (listed.setIfInBounds i true).getD m false = listed.getD m false := getD_set_ne false him
      cases hml : listed.getD m false with
      | false =>
        obtain ⟨σ1, γ1, h1, h2, h3⟩ := hI1 hml
        refine wpOp_mono (fun a' w' hst => ?_) (h5.run σ1 γ1 a w h1 (hops0 h2) (fun k cs hk => hbxk h2 hk) (hnone0 h2) (h2.ext.trans h6.ext.symm) _ i ho)
        obtain ⟨γ', u, rfl, e2, e3, e4, e5⟩ := hst
        have hd' : d < a.tmps.size := by rw [h1.size]; exact h5.lt
        refine ⟨fun _ => ⟨_, γ', e4, (h2.step hnd hmap hLi).of_iff fun j => ?_, fun q dm rm L hmx hlm => ?_⟩, fun hc => (by rw [hmi, hml] at hc; cases hc)⟩
        · rw [hset']
          constructor
          · rintro ⟨h7, h8 | rfl⟩
            · exact .inl ⟨h7, h8⟩
            · exact .inr rfl
          · rintro (⟨h7, h8⟩ | rfl)
            · exact ⟨h7, .inl h8⟩
            · exact ⟨him', .inr rfl⟩
        · obtain ⟨om, σm, hm1, hm2, hm3⟩ := hsteps q dm rm (some L) hmx
          obtain ⟨hav, hlooks⟩ := hm2.src_ L rfl
          have hkeep : (∀ t, L = .s t → d ≠ t) → valAt (a.put (some d) u) w' γ' L = valAt a w γ1 L := fun hne => by
            cases L with
            | s t => simp [valAt, getD_put hd', hne t rfl]
            | b k off =>
              have hk : ∃ cs, look σ.box k = some cs := by
                cases hq : look σ.box k with
                | none => simp [avOf, hq] at hav
                | some cs => exact ⟨cs, rfl⟩
              obtain ⟨cs, hk⟩ := hk
              have hk1 : (look σ1.box k).isSome := by rw [hbxk h2 hk]; rfl
              show w'.cell? ⟨γ'.bx k, off, none⟩ = w.cell? ⟨γ1.bx k, off, none⟩
              rw [e3 k hk1]
              exact e2.cell (p := ⟨γ1.bx k, off, none⟩) (h1.box_lt hk1).1
          have hmn : q < m := (hdst hmx).1
          rcases (hset' q).1 hlm with hlm | rfl
          · have hdm : d ≠ dm := fun e => by
              subst e
              have := hnd i q d r rm hmap (by rw [List.getElem?_map, hmx]; rfl)
              subst this
              exact hLi ⟨him', hlm⟩
            have hne : ∀ t, L = .s t → d ≠ t := fun t ht e => by
              subst e
              obtain ⟨om', hom', hss, _, _⟩ := ssa_spec hs (show q < m + 1 by omega)
              have : om' = om := by
                rw [List.getElem?_take, if_pos hmn] at hm1
                have h7 : l.toArray[q]? = l[q]? := by simp
                rw [h7, hm1] at hom'
                exact (Option.some.inj hom').symm
              subst this
              obtain ⟨_, hw⟩ := hss d (hlooks d ht) i hi (hdst hx).2
              obtain ⟨oj, hoj, e, he, hb, hon⟩ := Region.waitsFor_spec hw
              have := hinv.closed q oj hoj hlm e he hb
              rw [hon, getD_both hun] at this
              cases this
            rw [hkeep hne, show valAt (a.put (some d) u) w' γ' (.s dm) = valAt a w γ1 (.s dm) by simp [valAt, getD_put hd', hdm]]
            exact h3 q dm rm L hmx hlm
          · rw [hx] at hmx
            cases hmx
            have hne : ∀ t, L = .s t → d ≠ t := fun t ht e => by
              subst e
              obtain ⟨om', hom', hss, _, _⟩ := ssa_spec hs (show q < m + 1 by omega)
              have : om' = om := by
                rw [List.getElem?_take, if_pos hmn] at hm1
                have h7 : l.toArray[q]? = l[q]? := by simp
                rw [h7, hm1] at hom'
                exact (Option.some.inj hom').symm
              subst this
              exact absurd (hss d (hlooks d ht) q (by omega) (hdst hx).2).1 (Nat.lt_irrefl _)
            rw [hkeep hne]
            rcases e5 L rfl with h7 | h7
            · right
              rw [h7]
              simp [valAt, getD_put hd']
            · exact .inl h7
      | true =>
        obtain ⟨σ1, γ1, h1, h2⟩ := hI2 hml
        have hddA := hdne hx
        have hlookA : ∀ s, s ∈ o2.looksAt l.toArray → s ≠ dA := fun s hsl e => by
          subst e
          have := (hssa s hsl m (by omega) (by rw [hoA', Option.bind_some, hdA])).1
          omega
        have hdt : d ≠ t := fun e => by
          subst e
          have := hnd i it d r ri hmap (by rw [List.getElem?_map, hit]; rfl)
          subst this
          obtain ⟨oj, hoj, e, he, hb, hon⟩ := Region.waitsFor_spec (show Region.waitsFor .any l.toArray m i = true from by
            obtain ⟨om, hom, hss, _, _⟩ := ssa_spec hs (show m < m + 1 by omega)
            rw [hoA'] at hom
            cases hom
            exact (hss d (mem_looks (by rw [hopA]; simp [Op.operands, Call.operands, g1])) i (by omega) (hdst hx).2).2)
          have := hinv.closed m oj hoj hml e he hb
          rw [hon, getD_both hun] at this
          cases this
        refine wpOp_mono (fun a' w' hst => ?_) (h5.run (App σ1) γ1 a w h1 (fun s v hsl hv => by
          show look (appSt σ1 t k off dA i0 (rows ++ rows2) e).slot s = some v
          rw [appSt_slot, if_neg (fun e => hlookA s hsl e.symm)]
          exact hops0 h2 s v hsl hv) (fun k cs hk => (show look σ1.box k = some cs from hbxk h2 hk)) (fun hd => (show look σ1.box d = none from hnone0 h2 hd)) (h2.ext.trans h6.ext.symm) _ i ho)
        obtain ⟨γ', u, rfl, e2, e3, e4, e5⟩ := hst
        refine ⟨fun hc => (by rw [hmi, hml] at hc; cases hc), fun _ => ⟨σ1.res d r, γ', e4.congr (fun s => ?_) (fun b => ?_) (fun M => ?_) ?_, (h2.step hnd hmap hLi).of_iff fun j => ?_⟩⟩
        · show look (appSt _ _ _ _ _ _ _ _).slot s = look ((appSt _ _ _ _ _ _ _ _).res d r).slot s
          rw [appSt_slot, res_slot, res_slot, appSt_slot]
          by_cases e1 : dA = s
          · subst e1; rw [if_pos rfl, if_neg hddA, if_pos rfl]
          · rw [if_neg e1, if_neg e1]
        · show look (appSt _ _ _ _ _ _ _ _).box b = look ((appSt _ _ _ _ _ _ _ _).res d r).box b
          rw [res_box]
          show look (σ1.res d r).box b = _
          rw [res_box]
          rfl
        · show lookL (appSt _ _ _ _ _ _ _ _).own M = lookL ((appSt _ _ _ _ _ _ _ _).res d r).own M
          rw [appSt_own, res_own, res_own, appSt_own]
          by_cases e1 : M = .s d
          · subst e1
            rw [if_pos rfl, if_pos rfl, if_neg (by simpa using hddA), if_neg (by simpa using hdt), if_neg (by simp)]
          · rw [if_neg e1, if_neg e1]
        · show (σ1.res d r).ext = ((appSt _ _ _ _ _ _ _ _).res d r).ext
          rw [res_ext, res_ext]
          rfl
        · rw [hset']
          constructor
          · rintro ⟨h7, h8 | rfl⟩
            · exact .inl ⟨h7, h8⟩
            · exact .inr rfl
          · rintro (⟨h7, h8⟩ | rfl)
            · exact ⟨h7, .inl h8⟩
            · exact ⟨him', .inr rfl⟩
  case fin =>
    rintro listed a w hinv hdone ⟨_, hI2⟩
    have hdone' : ∀ i, i < m + 1 → listed.getD i false = true := fun i hi => by
      have h4 := hdone i hi
      have hs : i < listed.size := by rw [hinv.size, hsz]; omega
      simp [hs] at h4 ⊢
      exact h4
    obtain ⟨σ1, γ1, h1, h2⟩ := hI2 (hdone' m (by omega))
    have hLk : Lk σ (rs3.map fun x => (x.1, x.2.1)) (· < 0 + (l.take m).length) σ1 := h2.of_iff fun j => by
      rw [hlt]
      constructor
      · intro h4; exact ⟨by omega, hdone' j (by omega)⟩
      · intro h4; omega
    obtain ⟨q1, q2, q3, q4⟩ := hLk.same hfin
    have hrel : Rel F (App σ') γ1 a w := h1.congr (fun s => by
        show look (appSt _ _ _ _ _ _ _ _).slot s = look (appSt _ _ _ _ _ _ _ _).slot s
        rw [appSt_slot, appSt_slot, q1]) q2 (fun M => by
        show lookL (appSt _ _ _ _ _ _ _ _).own M = lookL (appSt _ _ _ _ _ _ _ _).own M
        rw [appSt_own, appSt_own, q3]) q4
    have hlisted : listed = doneA (m + 1) l.toArray.size := by
      apply Array.ext
      · rw [hinv.size]; simp [doneA]
      · intro i hi1 hi2
        have hil : i < l.toArray.size := by rw [← hinv.size]; exact hi1
        have : (doneA (m + 1) l.toArray.size)[i] = decide (i < m + 1) := by simp [doneA]
        rw [this]
        by_cases hin : i < m + 1
        · have := hdone' i hin
          simp [hi1] at this
          rw [this]; simp [hin]
        · have := hinv.tail i (by omega) hil
          simp [hi1] at this
          rw [this]; simp [hin]
    have hwl := sops_ok (P := P) (F := F) (Q := fun e a' w' => ∃ x σ' γ', e = AX.exit_ x ∧ Q x σ' ∧ Rel F σ' γ' a' w') (fun σ'' γ'' a'' w'' hq hr'' => ⟨.normal, σ'', γ'', rfl, hq, hr''⟩) (l.drop (m + 1)) _ γ1 a w hrel hK
    have hdl : (l.drop (m + 1)).length = l.toArray.size - (m + 1) := by simp
    have := wpAny_of_seq (md := .any) (Q' := fun e a' w' => ∃ x σ' γ', e = AX.exit_ x ∧ Q x σ' ∧ Rel F σ' γ' a' w') (ops := l.toArray) (l.drop (m + 1)) (m + 1) listed a w (fun j => by simp [List.getElem?_drop]) (by rw [hdl, hlisted]; exact hseq) hwl
    rwa [hdl] at this
/-- The same, for a walk. -/
theorem awp_drawA' {id : Nat} {l l1 l2 : List Oper} {Q : AX → St → Prop} {σ : St} (st : List Nat) (m : Nat) {oA : Oper} {dA : Nat} {args : Array Operand} {ats : Array TypeId} (hm : P.follows .mixedOrders = true) (hc : (decide (m + 1 ≤ l.length) && ssaB l.toArray (m + 1) && tailB l.toArray (m + 1)) = true) (hoA : l[m]? = some oA) (hopA : oA.op = .call { callee := .builtin .append, args, argTypes := ats }) (hdA : oA.dst = some dA) (hgA : oA.guard = none) (h1 : l.take m = l1) (h2 : l.drop (m + 1) = l2)
    (h : ∀ bx0 : Nat → Option (List PV), bx0 = look σ.box → headW P F.n st l.toArray bx0 l1 σ [] fun σ1 sl => appB P F.n σ1 sl { callee := .builtin .append, args, argTypes := ats } dA fun σ2 => sops P F.n st l.toArray l2 σ2 (Q .normal)) : AWp P F (Code.region id l.toArray true) Q σ := by
  simp only [Bool.and_eq_true, decide_eq_true_eq] at hc
  refine awp_drawA st m (cA := { callee := .builtin .append, args, argTypes := ats }) hm hc.1.1 hc.1.2 hc.2 hoA hopA hdA hgA ?_
  rw [h1, h2]
  exact h _ rfl
end
end Av
end Go.Proofs.Ytkdigdnacggknaa
/- Plain: networks, and what Check says of them. No program's numbers. -/
namespace Go.Proofs.Ytkdigdnacggknaa
namespace Mo
open Nd
structure Lk where
  (fr tt ls : Int)
structure Net where
  (nodes noise thr : Int)
  (pow : List (List Int))
  (lk : List Lk)
  (mg : List Int)
def outP (p : Int) : Bool := decide (p < 0) || decide (68719476736 < p)
def powE (nodes : Int) (pow : List (List Int)) : Int :=
  if ((pow.length : Nat) : Int) ≠ nodes ∨ pow.any (fun r => !(((r.length : Nat) : Int) == nodes)) = true then 1 else if pow.any (fun r => r.any outP) = true then 2 else 0
def lkB (nodes : Int) (l : Lk) : Bool := inB l.fr 0 (nodes - 1) && (inB l.tt 0 (nodes - 1) && (!(l.fr == l.tt) && inB l.ls 0 7))
def prevBadL (p : Option Lk) (l : Lk) : Bool := match p with
  | none => false
  | some q => decide (l.fr < q.fr) || (q.fr == l.fr && decide (l.tt ≤ q.tt))
def powAt (pow : List (List Int)) (a b : Int) : Int := (pow.getD a.toNat []).getD b.toNat 0
def lkE (nodes : Int) (pow : List (List Int)) (p : Option Lk) (l : Lk) (m : Int) : Int :=
  if lkB nodes l = false then 2 else if prevBadL p l = true then 5 else if m < 0 ∨ powAt pow l.fr l.tt < m then 2 else 0
def lkGo (nodes : Int) (pow : List (List Int)) : Option Lk → List Lk → List Int → Int
  | _, [], _ => 0
  | p, l :: ls, ms => if lkE nodes pow p l (ms.headD 0) = 0 then lkGo nodes pow (some l) ls ms.tail else lkE nodes pow p l (ms.headD 0)
/-- The first fault of a network. -/
def chkN (n : Net) : Int :=
  if n.nodes < 2 ∨ 32 < n.nodes then 2
  else if powE n.nodes n.pow ≠ 0 then powE n.nodes n.pow
  else if inB n.noise 0 68719476736 = false ∨ inB n.thr 1000 100000 = false then 2
  else if 128 < n.lk.length then 8
  else if n.mg.length ≠ n.lk.length then 11
  else lkGo n.nodes n.pow none n.lk n.mg
end Mo
end Go.Proofs.Ytkdigdnacggknaa
/- Walks: the powers of a network. -/
namespace Go.Proofs.Ytkdigdnacggknaa
open Go.RowKit
open Nd Rc Mo

/-- A row of powers, with its place. -/
structure PRow where
  (l : List Int) (A : Option Addr) (c : Nat)
def PRow.row (p : PRow) : List Value := [.slice p.A p.l.length p.c]
def Mo.Lk.row (l : Lk) : List Value := [.int .i64 l.fr, .int .i64 l.tt, .int .i64 l.ls]
def LiesP (w : World) (B : Nat) (P : Option Addr) (pw : List PRow) : Prop := Lies w B 1 P (pw.map PRow.row) ∧ ∀ p ∈ pw, LiesI w B p.A p.l ∧ p.l.length ≤ 1000000
theorem LiesP.later {w w' : World} {P : Option Addr} {pw : List PRow} (h : LiesP w w.heap.size P pw) (hb : Below w.heap.size w w') : LiesP w' w'.heap.size P pw := ⟨(h.1.below hb).more hb.size, fun p hp => ⟨((h.2 p hp).1.below hb).more hb.size, (h.2 p hp).2⟩⟩
theorem idx_any {α : Type} (p : α → Bool) (l : List α) : decide (0 ≤ idxP p l 0) = l.any p := by
  rcases idxP_spec p l 0 with ⟨h1, h2⟩ | ⟨i, a, h1, h2, h3, h4⟩
  · rw [h1, show decide ((0 : Int) ≤ -1) = false from rfl]
    symm
    rw [Bool.eq_false_iff]
    intro h
    obtain ⟨x, hx, hpx⟩ := List.any_eq_true.1 h
    have := List.all_eq_true.1 h2 x hx
    rw [hpx] at this
    cases this
  · rw [h3, show decide ((0 : Int) ≤ 0 + (i : Int)) = true from decide_eq_true (by omega)]
    symm
    exact List.any_eq_true.2 ⟨a, List.mem_of_getElem? h1, h2⟩

set_option maxRecDepth 100000 in
set_option maxHeartbeats 1000000 in
theorem indexI_any (p : Int → Bool) (g : FuncId) (cb : Array Value) (l : List Int) (A : Option Addr) (c : Nat) (w : World) (eg : ∀ args w, (callFunc g args).run Try.prog w = .ok (.enter g args) w)
    (hA : Lies w w.heap.size 1 A (l.map irow)) (hl : l.length ≤ 1000000) (hp : ∀ W, Below w.heap.size w W → ∀ a, a ∈ l → Calls Try.prog g (#[.int .i64 a] ++ cb) W fun e w' => e = .returned (.bool (p a)) ∧ Below W.heap.size W w') :
    Calls Try.prog 114 #[.slice A l.length c, .func (.func g) #[] cb] w fun e w' => e = .returned (.int .i64 (idxP p l 0)) ∧ Below w.heap.size w w' := by
  obtain ⟨n, hn⟩ : ∃ n, n = l.length := ⟨_, rfl⟩
  rw [← hn] at hl ⊢
  have HN := Lib.hid hn
  obtain ⟨T, hT⟩ : ∃ T, T = idxP p l 0 := ⟨_, rfl⟩
  rw [← hT]
  have HT := Lib.hid hT
  have HP := Lib.hid hp
  clear hn hT hp
  go_enter Try.func114, Try.ntmps114
  go_wp2_with fail
  go_loopw [8] (fun i wr => ∃ (k : Nat), k ≤ n ∧ i = .int .i64 k ∧ Below w.heap.size w wr ∧ Hid (T = idxP p (l.drop k) k)) (fun i _ => n - (intOf i).toNat)
  case atStart => exact ⟨0, Nat.zero_le _, rfl, Below.refl _ _, Lib.hid (by rw [HT.out]; rfl)⟩
  case round =>
    obtain ⟨k, hk, rfl, hb, hst⟩ := hrel
    by_cases hlt : k < n
    · obtain ⟨a, ha⟩ := get_of_lt (l := l) (k := k) (by rw [← HN.out]; exact hlt)
      obtain ⟨b, off, rfl, hbB, hcs⟩ := (Lies.below hA hb).at_ ha
      have c0 := hcs k a ha 0 _ rfl
      simp only [Nat.add_zero, Nat.mul_one] at c0
      have hst' : Hid (T = if p a = true then (k : Int) else idxP p (l.drop (k + 1)) ((k : Int) + 1)) := Lib.hid (by rw [hst.out, drop_of_get ha]; rfl)
      have hcall := HP.out wr hb a (List.mem_of_getElem? ha)
      clear hcs ha hst
      cases hq : p a with
      | true =>
        rw [hq] at hcall
        have hf := Lib.hid (show T = (k : Int) by rw [hst'.out, if_pos hq])
        clear hst' hq
        go_wp2_with (go_at_fn g; refine hcall.mono ?_; rintro e w2 ⟨rfl, hb2⟩)
        go_ret
        exact ⟨ret_int (by rw [hf.out]), hb.trans (hb2.mono hb.size)⟩
      | false =>
        rw [hq] at hcall
        have hf := Lib.hid (show T = idxP p (l.drop (k + 1)) ((k + 1 : Nat) : Int) by rw [hst'.out, if_neg (by rw [hq]; decide)]; rfl)
        clear hst' hq
        go_wp2_with (go_at_fn g; refine hcall.mono ?_; rintro e w2 ⟨rfl, hb2⟩)
        go_roundw
        case rel => exact ⟨k + 1, by omega, by go_num, hb.trans (hb2.mono hb.size), hf⟩
        case measure => simp [intOf]; omega
    · have hf : Hid (T = -1) := Lib.hid (by rw [hst.out, List.drop_of_length_le (by rw [← HN.out]; omega)]; rfl)
      go_wp2_with fail
      go_ret
      exact ⟨ret_int (by rw [hf.out]), hb⟩

theorem contI_any (p : Int → Bool) (g : FuncId) (cb : Array Value) (l : List Int) (A : Option Addr) (c : Nat) (w : World) (eg : ∀ args w, (callFunc g args).run Try.prog w = .ok (.enter g args) w)
    (hA : Lies w w.heap.size 1 A (l.map irow)) (hl : l.length ≤ 1000000) (hp : ∀ W, Below w.heap.size w W → ∀ a, a ∈ l → Calls Try.prog g (#[.int .i64 a] ++ cb) W fun e w' => e = .returned (.bool (p a)) ∧ Below W.heap.size W w') :
    Calls Try.prog 96 #[.slice A l.length c, .func (.func g) #[] cb] w fun e w' => e = .returned (.bool (l.any p)) ∧ Below w.heap.size w w' := by
  have con := indexI_any p g cb l A c w eg hA hl hp
  have HT : Hid (decide (0 ≤ idxP p l 0) = l.any p) := Lib.hid (idx_any p l)
  generalize idxP p l 0 = T at *
  generalize l.any p = R at *
  generalize l.length = n at *
  have Con := Lib.hid con
  clear con hA hp
  go_enter Try.func96, Try.ntmps96
  go_wp2_with (go_at_call 114; (with_reducible refine Con.out.mono ?_); rintro e w' ⟨rfl, hb⟩)
  go_ret
  exact ⟨ret_bool HT.out, hb⟩

set_option maxRecDepth 100000 in
set_option maxHeartbeats 1000000 in
theorem indexP_any (p : PRow → Bool) (g : FuncId) (cb : Array Value) (l : List PRow) (A : Option Addr) (c : Nat) (w : World) (eg : ∀ args w, (callFunc g args).run Try.prog w = .ok (.enter g args) w)
    (hA : Lies w w.heap.size 1 A (l.map PRow.row)) (hl : l.length ≤ 1000000) (hp : ∀ W, Below w.heap.size w W → ∀ a, a ∈ l → Calls Try.prog g (#[.slice a.A a.l.length a.c] ++ cb) W fun e w' => e = .returned (.bool (p a)) ∧ Below W.heap.size W w') :
    Calls Try.prog 113 #[.slice A l.length c, .func (.func g) #[] cb] w fun e w' => e = .returned (.int .i64 (idxP p l 0)) ∧ Below w.heap.size w w' := by
  obtain ⟨n, hn⟩ : ∃ n, n = l.length := ⟨_, rfl⟩
  rw [← hn] at hl ⊢
  have HN := Lib.hid hn
  obtain ⟨T, hT⟩ : ∃ T, T = idxP p l 0 := ⟨_, rfl⟩
  rw [← hT]
  have HT := Lib.hid hT
  have HP := Lib.hid hp
  clear hn hT hp
  go_enter Try.func113, Try.ntmps113
  go_wp2_with fail
  go_loopw [8] (fun i wr => ∃ (k : Nat), k ≤ n ∧ i = .int .i64 k ∧ Below w.heap.size w wr ∧ Hid (T = idxP p (l.drop k) k)) (fun i _ => n - (intOf i).toNat)
  case atStart => exact ⟨0, Nat.zero_le _, rfl, Below.refl _ _, Lib.hid (by rw [HT.out]; rfl)⟩
  case round =>
    obtain ⟨k, hk, rfl, hb, hst⟩ := hrel
    by_cases hlt : k < n
    · obtain ⟨a, ha⟩ := get_of_lt (l := l) (k := k) (by rw [← HN.out]; exact hlt)
      obtain ⟨b, off, rfl, hbB, hcs⟩ := (Lies.below hA hb).at_ ha
      have c0 := hcs k a ha 0 _ rfl
      simp only [Nat.add_zero, Nat.mul_one] at c0
      have hst' : Hid (T = if p a = true then (k : Int) else idxP p (l.drop (k + 1)) ((k : Int) + 1)) := Lib.hid (by rw [hst.out, drop_of_get ha]; rfl)
      have hcall := HP.out wr hb a (List.mem_of_getElem? ha)
      clear hcs ha hst
      cases hq : p a with
      | true =>
        rw [hq] at hcall
        have hf := Lib.hid (show T = (k : Int) by rw [hst'.out, if_pos hq])
        clear hst' hq
        go_wp2_with (go_at_fn g; refine hcall.mono ?_; rintro e w2 ⟨rfl, hb2⟩)
        go_ret
        exact ⟨ret_int (by rw [hf.out]), hb.trans (hb2.mono hb.size)⟩
      | false =>
        rw [hq] at hcall
        have hf := Lib.hid (show T = idxP p (l.drop (k + 1)) ((k + 1 : Nat) : Int) by rw [hst'.out, if_neg (by rw [hq]; decide)]; rfl)
        clear hst' hq
        go_wp2_with (go_at_fn g; refine hcall.mono ?_; rintro e w2 ⟨rfl, hb2⟩)
        go_roundw
        case rel => exact ⟨k + 1, by omega, by go_num, hb.trans (hb2.mono hb.size), hf⟩
        case measure => simp [intOf]; omega
    · have hf : Hid (T = -1) := Lib.hid (by rw [hst.out, List.drop_of_length_le (by rw [← HN.out]; omega)]; rfl)
      go_wp2_with fail
      go_ret
      exact ⟨ret_int (by rw [hf.out]), hb⟩

theorem contP_any (p : PRow → Bool) (g : FuncId) (cb : Array Value) (l : List PRow) (A : Option Addr) (c : Nat) (w : World) (eg : ∀ args w, (callFunc g args).run Try.prog w = .ok (.enter g args) w)
    (hA : Lies w w.heap.size 1 A (l.map PRow.row)) (hl : l.length ≤ 1000000) (hp : ∀ W, Below w.heap.size w W → ∀ a, a ∈ l → Calls Try.prog g (#[.slice a.A a.l.length a.c] ++ cb) W fun e w' => e = .returned (.bool (p a)) ∧ Below W.heap.size W w') :
    Calls Try.prog 92 #[.slice A l.length c, .func (.func g) #[] cb] w fun e w' => e = .returned (.bool (l.any p)) ∧ Below w.heap.size w w' := by
  have con := indexP_any p g cb l A c w eg hA hl hp
  have HT : Hid (decide (0 ≤ idxP p l 0) = l.any p) := Lib.hid (idx_any p l)
  generalize idxP p l 0 = T at *
  generalize l.any p = R at *
  generalize l.length = n at *
  have Con := Lib.hid con
  clear con hA hp
  go_enter Try.func92, Try.ntmps92
  go_wp2_with (go_at_call 113; (with_reducible refine Con.out.mono ?_); rintro e w' ⟨rfl, hb⟩)
  go_ret
  exact ⟨ret_bool HT.out, hb⟩

theorem cpow1_any (p : PRow) (nodes : Int) (g : Nat) (w : World) (hc : w.cell? ⟨g, 0, none⟩ = some (.int .i64 nodes)) :
    Calls Try.prog 93 #[.slice p.A p.l.length p.c, .pointer (some ⟨g, 0, none⟩)] w fun e w' => e = .returned (.bool (!(((p.l.length : Nat) : Int) == nodes))) ∧ Below w.heap.size w w' := by
  go_enter Try.func93, Try.ntmps93
  go_wp2_with fail
  go_ret
  exact ⟨rfl, Below.refl _ _⟩
theorem cpow2_any (x : Int) (w : World) :
    Calls Try.prog 94 #[.int .i64 x] w fun e w' => e = .returned (.bool (outP x)) ∧ Below w.heap.size w w' := by
  unfold outP
  go_enter Try.func94, Try.ntmps94
  go_wp2
  all_goals
    go_ret
    exact ⟨ret_bool (by first | (simp [*]; done) | (simp [*]; omega)), Below.refl _ _⟩
theorem cpow3_any (p : PRow) (g : Nat) (w : World) (hc : w.cell? ⟨g, 0, none⟩ = some (.func (.func 94) #[] #[])) (hp : LiesI w w.heap.size p.A p.l) (hl : p.l.length ≤ 1000000) :
    Calls Try.prog 95 #[.slice p.A p.l.length p.c, .pointer (some ⟨g, 0, none⟩)] w fun e w' => e = .returned (.bool (p.l.any outP)) ∧ Below w.heap.size w w' := by
  have con := contI_any outP 94 #[] p.l p.A p.c w (enters_of Try.func94 (by kernel_rfl) rfl) hp hl (fun W hW a _ => cpow2_any a W)
  generalize p.l.any outP = R at *
  generalize p.l.length = n at *
  have Con := Lib.hid con
  clear con hp hl
  go_enter Try.func95, Try.ntmps95
  go_wp2_with (go_at_call 96; (with_reducible refine Con.out.mono ?_); rintro e w' ⟨rfl, hb⟩)
  go_ret
  exact ⟨rfl, hb⟩

set_option maxHeartbeats 2000000 in
theorem cpow_any (nodes noise thr : Int) (pw : List PRow) (lk : List Lk) (mg : List Int) (P L G : Option Addr) (cp cl cg : Nat) (w : World) (hP : LiesP w w.heap.size P pw) (hp : pw.length ≤ 1000000) :
    Calls Try.prog 72 #[.agg #[.int .i64 nodes, .slice P pw.length cp, .int .i64 noise, .int .i64 thr, .slice L lk.length cl, .slice G mg.length cg]] w fun e w' => e = .returned (.int .i64 (powE nodes (pw.map PRow.l))) ∧ Below w.heap.size w w' := by
  obtain ⟨np, hnp⟩ : ∃ n, n = pw.length := ⟨_, rfl⟩
  obtain ⟨T, hT⟩ : ∃ T, T = powE nodes (pw.map PRow.l) := ⟨_, rfl⟩
  unfold powE at hT
  rw [List.any_map, List.any_map, List.length_map, ← hnp] at hT
  obtain ⟨N, hN⟩ : ∃ N, N = w.heap.size := ⟨_, rfl⟩
  generalize lk.length = nl at *
  generalize mg.length = nm at *
  rw [← hnp]
  obtain ⟨W1, hW1⟩ : ∃ W1, W1 = w.alloc (.cells #[.int .i64 nodes, .slice P np cp, .int .i64 noise, .int .i64 thr, .slice L nl cl, .slice G nm cg] 44) := ⟨_, rfl⟩
  have hb1 : Below N w W1 := by rw [hW1, hN]; exact (Below.refl _ _).alloc (Nat.le_refl _) _
  have bN : Blk W1 N 44 [.int .i64 nodes, .slice P np cp, .int .i64 noise, .int .i64 thr, .slice L nl cl, .slice G nm cg] := by rw [hW1]; exact Blk.new2 _ [.int .i64 nodes, .slice P np cp, .int .i64 noise, .int .i64 thr, .slice L nl cl, .slice G nm cg] hN
  have HW := Lib.hid (fun W (h' : Below W1.heap.size W1 W) => (show Below w.heap.size w W ∧ Row W N [.int .i64 nodes, .slice P np cp, .int .i64 noise, .int .i64 thr, .slice L nl cl, .slice G nm cg] from ⟨by rw [← hN]; exact hb1.trans (h'.mono (by have := bN.lt; omega)), (bN.below h' bN.lt).row⟩))
  have HP := Lib.hid (fun W (h' : Below W1.heap.size W1 W) => LiesP.later hP (HW.out W h').1)
  have C1 := Lib.hid (fun W (h' : Below W1.heap.size W1 W) => contP_any (fun p => !(((p.l.length : Nat) : Int) == nodes)) 93 #[.pointer (some ⟨N, 0, none⟩)] pw P cp W (enters_of Try.func93 (by kernel_rfl) rfl) (HP.out W h').1 hp (fun W2 h2 a _ => cpow1_any a nodes N W2 ((HW.out W2 (h'.trans (h2.mono h'.size))).2 0)))
  have C3 := Lib.hid (fun g W (h' : Below W1.heap.size W1 W) (hg : g < W.heap.size) (hc : W.cell? ⟨g, 0, none⟩ = some (.func (.func 94) #[] #[])) => contP_any (fun p => p.l.any outP) 95 #[.pointer (some ⟨g, 0, none⟩)] pw P cp W (enters_of Try.func95 (by kernel_rfl) rfl) (HP.out W h').1 hp (fun W2 h2 a ha => cpow3_any a g W2 ((h2.cell (p := ⟨g, 0, none⟩) hg).trans hc) ((HP.out W2 (h'.trans (h2.mono h'.size))).2 a ha).1 ((HP.out W2 (h'.trans (h2.mono h'.size))).2 a ha).2))
  have HT : Hid (T = if ((np : Nat) : Int) ≠ nodes ∨ (pw.any fun p => !(((p.l.length : Nat) : Int) == nodes)) = true then 1 else if (pw.any fun p => p.l.any outP) = true then 2 else 0) := Lib.hid hT
  rw [← hnp] at C1 C3
  rw [show powE nodes (pw.map PRow.l) = T from by rw [hT]; unfold powE; rw [List.any_map, List.any_map, List.length_map, ← hnp]]
  generalize (pw.any fun p => !(((p.l.length : Nat) : Int) == nodes)) = R1 at *
  generalize (pw.any fun p => p.l.any outP) = R3 at *
  have HW1 := Lib.hid hW1
  have HN := Lib.hid hN
  have hNl := bN.lt
  have r1 : Row (w.alloc (.cells #[.int .i64 nodes, .slice P np cp, .int .i64 noise, .int .i64 thr, .slice L nl cl, .slice G nm cg] 44)) N [.int .i64 nodes, .slice P np cp, .int .i64 noise, .int .i64 thr, .slice L nl cl, .slice G nm cg] := by rw [← hW1]; exact bN.row
  rw [HN.out] at r1
  unfold Row at r1
  clear hT hnp hb1 bN hP hN hW1 HP hp
  go_enter Try.func72, Try.ntmps72
  clear r1
  by_cases h1 : ((np : Nat) : Int) = nodes
  case neg =>
    have hf : Hid (T = 1) := Lib.hid (by rw [HT.out, if_pos (.inl h1)])
    have h1' : (((np : Nat) : Int) != nodes) = true := by simpa using h1
    clear h1
    go_wp2_with fail
    go_ret
    exact ⟨ret_int (by rw [hf.out]), by rw [← HW1.out]; exact (HW.out _ (Below.refl _ _)).1⟩
  have h1' : (((np : Nat) : Int) != nodes) = false := by simpa using h1
  have HT2 : Hid (T = if R1 = true then 1 else if R3 = true then 2 else 0) := Lib.hid (by rw [HT.out]; simp [h1])
  have C1' := Lib.hid (C1.out _ (Below.refl _ _))
  clear h1 HT C1
  rw [HN.out] at C1'
  rw [HW1.out] at C1'
  go_wp2_with fail
  refine C1'.out.mono ?_
  rintro e w2 ⟨rfl, hb2⟩
  rw [← HW1.out] at hb2
  cases R1 with
  | true =>
    have hf : Hid (T = 1) := Lib.hid (by rw [HT2.out, if_pos rfl])
    go_wp2_with fail
    go_ret
    exact ⟨ret_int (by rw [hf.out]), (HW.out _ hb2).1⟩
  | false =>
    have HT3 : Hid (T = if R3 = true then 2 else 0) := Lib.hid (by rw [HT2.out]; rfl)
    have r2 := (HW.out _ hb2).2
    rw [HN.out] at r2
    unfold Row at r2
    clear HT2 C1'
    go_upto_region 4 with fail
    obtain ⟨g, hg⟩ : ∃ g, g = w2.heap.size := ⟨_, rfl⟩
    generalize hWa : World.alloc _ _ = Wa
    have ba : Blk Wa g 128 [.func (.func 94) #[] #[]] := by rw [← hWa]; exact Blk.new2 128 [.func (.func 94) #[] #[]] hg
    have hba : Below W1.heap.size W1 Wa := by rw [← hWa]; exact hb2.alloc hb2.size _
    have Con := Lib.hid (C3.out g Wa hba ba.lt (ba.row 0))
    have r3 := (HW.out _ hba).2
    rw [HN.out] at r3
    unfold Row at r3
    rw [← hg]
    clear hWa hg r2 C3 ba
    go_wp2_with fail
    refine Con.out.mono ?_
    rintro e w3 ⟨rfl, hb3⟩
    have hB3 : Below W1.heap.size W1 w3 := hba.trans (hb3.mono hba.size)
    cases R3 with
    | true =>
      have hf : Hid (T = 2) := Lib.hid (by rw [HT3.out]; rfl)
      go_wp2_with fail
      go_ret
      exact ⟨ret_int (by rw [hf.out]), (HW.out _ hB3).1⟩
    | false =>
      have hf : Hid (T = 0) := Lib.hid (by rw [HT3.out]; rfl)
      go_wp2_with fail
      go_ret
      exact ⟨ret_int (by rw [hf.out]), (HW.out _ hB3).1⟩
end Go.Proofs.Ytkdigdnacggknaa
/- Walks: package network: compare, the check of a link. -/
namespace Go.Proofs.Ytkdigdnacggknaa
open Go.RowKit
open Nd Rc Mo

theorem prevL_eq (q l : Lk) : decide (0 ≤ orI [Rc.cmpI q.fr l.fr, Rc.cmpI q.tt l.tt]) = prevBadL (some q) l := by
  unfold orI orI orI Rc.cmpI prevBadL
  by_cases h1 : q.fr < l.fr
  · have h2 : ¬ l.fr < q.fr := by omega
    have h3 : ¬ q.fr = l.fr := by omega
    simp [h1, h2, h3]
  · by_cases h2 : l.fr < q.fr
    · simp [h1, h2]
    · have h3 : q.fr = l.fr := by omega
      by_cases h4 : q.tt < l.tt
      · have h5 : ¬ l.tt ≤ q.tt := by omega
        simp [h3, h4, h5]
      · have h5 : l.tt ≤ q.tt := by omega
        by_cases h6 : l.tt < q.tt <;> simp [h3, h4, h5, h6]

set_option maxRecDepth 100000 in
set_option maxHeartbeats 1000000 in
theorem ncompare_any (x y : Lk) (w : World) : Calls Try.prog 98 #[.agg #[.int .i64 x.fr, .int .i64 x.tt, .int .i64 x.ls], .agg #[.int .i64 y.fr, .int .i64 y.tt, .int .i64 y.ls]] w
    fun e w' => e = .returned (.int .i64 (orI [Rc.cmpI x.fr y.fr, Rc.cmpI x.tt y.tt])) ∧ Below w.heap.size w w' := by
  obtain ⟨f, t, l⟩ := x
  obtain ⟨f', t', l'⟩ := y
  dsimp only
  obtain ⟨W1, hW1⟩ : ∃ W1, W1 = (w.alloc (.cells #[.int .i64 f, .int .i64 t, .int .i64 l] 73)).alloc (.cells #[.int .i64 f', .int .i64 t', .int .i64 l'] 73) := ⟨_, rfl⟩
  have hb1 : Below w.heap.size w W1 := by rw [hW1]; exact ((Below.refl _ _).alloc (Nat.le_refl _) _).alloc (by simp) _
  have b1 : Blk W1 w.heap.size 73 [.int .i64 f, .int .i64 t, .int .i64 l] := by rw [hW1]; exact Blk.alloc (Blk.new2 _ [.int .i64 f, .int .i64 t, .int .i64 l] rfl) _
  have b2 : Blk W1 (w.heap.size + 1) 73 [.int .i64 f', .int .i64 t', .int .i64 l'] := by rw [hW1]; exact Blk.new2 _ [.int .i64 f', .int .i64 t', .int .i64 l'] (by simp)
  have HW1 := Lib.hid hW1
  clear hW1
  go_enter Try.func98, Try.ntmps98
  go_upto_region 1 with fail
  rw [← HW1.out]
  have x1 := b1.row.ext (B := W1.heap.size) b1.lt
  have x2 := b2.row.ext (B := W1.heap.size) b2.lt
  refine wp_region_ext_tail W1.heap.size 10 (by kernel_rfl) (by kernel_rfl) ?_
  simp only [List.take_succ_cons, List.take_zero, List.drop_succ_cons, List.drop_zero]
  repeat (go_big_quiet_step ((go_at_call 56; exact Calls.ext_same (cmp_any _ _ _))))
  refine wpQuiet_nil ?_
  rintro _ ⟨x, rfl⟩
  have hb' := hb1.trans (x.below.mono hb1.size)
  obtain ⟨W, hW⟩ := x
  go_wp2_with (go_at_call 55; refine (or_any [cmpI f f', cmpI t t'] _ 0 2 _ (by simp) ?_).mono ?_)
  · exact fun k x hx => ints_get hx
  go_ret
  exact ⟨rfl, hb'.alloc (hb'.size) _⟩

theorem clink1_any (a nodes : Int) (g : Nat) (w : World) (hc : w.cell? ⟨g, 0, none⟩ = some (.int .i64 nodes)) :
    Calls Try.prog 97 #[.int .i64 a, .pointer (some ⟨g, 0, none⟩)] w fun e w' => e = .returned (.bool (Nd.inB a 0 (nodes - 1))) ∧ Below w.heap.size w w' := by
  have hi : Nd.inB a 0 (nodes - 1) = (decide (0 ≤ a) && decide (a < nodes)) := by
    unfold Nd.inB
    congr 1
    exact decide_eq_decide.2 (by omega)
  rw [hi]
  go_enter Try.func97, Try.ntmps97
  go_wp2
  all_goals
    go_ret
    exact ⟨ret_bool (by first | (simp [*]; done) | (simp [*]; omega)), Below.refl _ _⟩
end Go.Proofs.Ytkdigdnacggknaa
/- Walks: package network: checkLink, Check. -/
namespace Go.Proofs.Ytkdigdnacggknaa
open Go.RowKit
open Nd Rc Mo

/-- The link ahead of the one at i. -/
def prevL (lk : List Lk) (i : Nat) : Option Lk := if i = 0 then none else lk[i - 1]?
theorem pow_at {pw : List PRow} {nodes : Int} (hpn : ((pw.length : Nat) : Int) = nodes) (hrow : ∀ p ∈ pw, ((p.l.length : Nat) : Int) = nodes) {a b : Int} (ha : 0 ≤ a ∧ a ≤ nodes - 1) (hb : 0 ≤ b ∧ b ≤ nodes - 1) :
    ∃ p v, pw[a.toNat]? = some p ∧ p.l[b.toNat]? = some v ∧ powAt (pw.map PRow.l) a b = v := by
  obtain ⟨p, hp⟩ := get_of_lt (l := pw) (k := a.toNat) (by omega)
  have hr := hrow p (List.mem_of_getElem? hp)
  obtain ⟨v, hv⟩ := get_of_lt (l := p.l) (k := b.toNat) (by omega)
  refine ⟨p, v, hp, hv, ?_⟩
  unfold powAt
  rw [List.getD_eq_getElem?_getD, List.getD_eq_getElem?_getD, List.getElem?_map, hp]
  simp [hv]

set_option maxRecDepth 100000 in
set_option maxHeartbeats 4000000 in
theorem clink_any (nodes noise thr : Int) (pw : List PRow) (lk : List Lk) (mg : List Int) (P L G : Option Addr) (cp cl cg : Nat) (i : Nat) (l : Lk) (m : Int) (w : World) (hP : LiesP w w.heap.size P pw) (hp : pw.length ≤ 1000000) (hL : Lies w w.heap.size 3 L (lk.map Lk.row)) (hl : lk.length ≤ 1000000) (hG : LiesI w w.heap.size G mg) (hg : mg.length = lk.length)
    (hpn : ((pw.length : Nat) : Int) = nodes) (hrow : ∀ p ∈ pw, ((p.l.length : Nat) : Int) = nodes) (hi : lk[i]? = some l) (hm : mg[i]? = some m) :
    Calls Try.prog 73 #[.agg #[.int .i64 nodes, .slice P pw.length cp, .int .i64 noise, .int .i64 thr, .slice L lk.length cl, .slice G mg.length cg], .int .i64 (i : Nat)] w fun e w' => e = .returned (.int .i64 (lkE nodes (pw.map PRow.l) (prevL lk i) l m)) ∧ Below w.heap.size w w' := by
  obtain ⟨np, hnp⟩ : ∃ n, n = pw.length := ⟨_, rfl⟩
  obtain ⟨nl, hnl⟩ : ∃ n, n = lk.length := ⟨_, rfl⟩
  obtain ⟨nm, hnm⟩ : ∃ n, n = mg.length := ⟨_, rfl⟩
  have hil : i < nl := by rw [hnl]; exact (List.getElem?_eq_some_iff.1 hi).1
  have him : i < nm := by omega
  have hl6 : nl ≤ 1000000 := by omega
  obtain ⟨T, hT⟩ : ∃ T, T = lkE nodes (pw.map PRow.l) (prevL lk i) l m := ⟨_, rfl⟩
  obtain ⟨N, hN⟩ : ∃ N, N = w.heap.size := ⟨_, rfl⟩
  rw [← hT, ← hnp, ← hnl, ← hnm]
  obtain ⟨W1, hW1⟩ : ∃ W1, W1 = w.alloc (.cells #[.int .i64 nodes, .slice P np cp, .int .i64 noise, .int .i64 thr, .slice L nl cl, .slice G nm cg] 44) := ⟨_, rfl⟩
  have hb1 : Below N w W1 := by rw [hW1, hN]; exact (Below.refl _ _).alloc (Nat.le_refl _) _
  have bN : Blk W1 N 44 [.int .i64 nodes, .slice P np cp, .int .i64 noise, .int .i64 thr, .slice L nl cl, .slice G nm cg] := by rw [hW1]; exact Blk.new2 _ [.int .i64 nodes, .slice P np cp, .int .i64 noise, .int .i64 thr, .slice L nl cl, .slice G nm cg] hN
  have HW := Lib.hid (fun W (h' : Below W1.heap.size W1 W) => (show Below w.heap.size w W ∧ Row W N [.int .i64 nodes, .slice P np cp, .int .i64 noise, .int .i64 thr, .slice L nl cl, .slice G nm cg] from ⟨by rw [← hN]; exact hb1.trans (h'.mono (by have := bN.lt; omega)), (bN.below h' bN.lt).row⟩))
  have HP := Lib.hid (fun W (h' : Below W1.heap.size W1 W) => LiesP.later hP (HW.out W h').1)
  have HL := Lib.hid (fun W (h' : Below W1.heap.size W1 W) => (hL.below (HW.out W h').1).more (HW.out W h').1.size)
  have HGm := Lib.hid (fun W (h' : Below W1.heap.size W1 W) => (hG.below (HW.out W h').1).more (HW.out W h').1.size)
  have Con := Lib.hid (fun (a : Int) W (h' : Below W1.heap.size W1 W) => clink1_any a nodes N W ((HW.out W h').2 0))
  have HT := Lib.hid hT
  have HPn := Lib.hid (And.intro hpn hrow)
  have HI := Lib.hid hi
  have HMm := Lib.hid hm
  have HNl := Lib.hid hnl
  have HNm := Lib.hid hnm
  have HNp := Lib.hid hnp
  have HN := Lib.hid hN
  have HW1 := Lib.hid hW1
  have hNl := bN.lt
  have hz1 : W1.heap.size = N + 1 := by rw [hW1, hN]; simp
  obtain ⟨lb, loff, hLe, hlB, hcs⟩ := (HL.out _ (Below.refl _ _)).at_ hi
  have c0 := hcs i l hi 0 _ rfl
  have c1 := hcs i l hi 1 _ rfl
  have c2 := hcs i l hi 2 _ rfl
  simp only [Nat.add_zero] at c0 c1 c2
  have HLe := Lib.hid hLe
  subst hLe
  have r1 := (HW.out _ (Below.refl _ _)).2
  rw [HW1.out] at r1 c0 c1 c2
  rw [HN.out] at r1
  unfold Row at r1
  clear hP hp hL hl hG hg hpn hrow hi hm hT hN hW1 hb1 bN hnl hnm hnp hcs
  go_enter Try.func73, Try.ntmps73
  go_upto_region 3 with fail
  rw [← HW1.out, ← HN.out]
  clear r1 c0 c1 c2
  obtain ⟨X, hX⟩ : ∃ X, X = N + 1 := ⟨_, rfl⟩
  generalize hWa : World.alloc _ _ = Wa
  have bX : Blk Wa X 73 [.int .i64 l.fr, .int .i64 l.tt, .int .i64 l.ls] := by rw [← hWa]; exact Blk.new2 _ [.int .i64 l.fr, .int .i64 l.tt, .int .i64 l.ls] (by rw [hX, hz1])
  have hBa : Below W1.heap.size W1 Wa := by rw [← hWa]; exact (Below.refl _ _).alloc (Nat.le_refl _) _
  rw [← hX]
  clear hWa hX hz1
  have rX := bX.row
  unfold Row at rX
  go_wp2_with fail
  refine (Con.out _ _ hBa).mono ?_
  rintro e w2 ⟨rfl, hb2⟩
  have hB2 : Below W1.heap.size W1 w2 := hBa.trans (hb2.mono hBa.size)
  have bX2 := bX.below hb2 bX.lt
  clear rX bX
  have rX := bX2.row
  unfold Row at rX
  cases c1 : Nd.inB l.fr 0 (nodes - 1) with
  | false =>
    have hf : Hid (T = 2) := Lib.hid (by rw [HT.out]; unfold lkE; rw [if_pos (by unfold lkB; rw [c1]; rfl)])
    go_wp2_with fail
    go_ret
    exact ⟨ret_int (by rw [hf.out]), (HW.out _ hB2).1⟩
  | true =>
    go_wp2_with fail
    refine (Con.out _ _ hB2).mono ?_
    rintro e w3 ⟨rfl, hb3⟩
    have hB3 : Below W1.heap.size W1 w3 := hB2.trans (hb3.mono hB2.size)
    have bX3 := bX2.below hb3 bX2.lt
    clear rX bX2 hBa hb2 Con
    have rX := bX3.row
    unfold Row at rX
    cases c2 : Nd.inB l.tt 0 (nodes - 1) with
    | false =>
      have hf : Hid (T = 2) := Lib.hid (by rw [HT.out]; unfold lkE; rw [if_pos (by unfold lkB; rw [c1, c2]; rfl)])
      go_wp2_with fail
      go_ret
      exact ⟨ret_int (by rw [hf.out]), (HW.out _ hB3).1⟩
    | true =>
      cases c3 : (l.fr == l.tt) with
      | true =>
        have hf : Hid (T = 2) := Lib.hid (by rw [HT.out]; unfold lkE; rw [if_pos (by unfold lkB; rw [c1, c2, c3]; rfl)])
        go_wp2_with fail
        go_ret
        exact ⟨ret_int (by rw [hf.out]), (HW.out _ hB3).1⟩
      | false =>
        by_cases d4 : l.ls < 0
        · have e4 : decide (l.ls < 0) = true := decide_eq_true d4
          have c4 : Nd.inB l.ls 0 7 = false := by unfold Nd.inB; rw [decide_eq_false (by omega)]; rfl
          have hf : Hid (T = 2) := Lib.hid (by rw [HT.out]; unfold lkE; rw [if_pos (by unfold lkB; rw [c1, c2, c3, c4]; rfl)])
          go_wp2_with fail
          go_ret
          exact ⟨ret_int (by rw [hf.out]), (HW.out _ hB3).1⟩
        have e4 : decide (l.ls < 0) = false := decide_eq_false d4
        by_cases d5 : 7 < l.ls
        · have e5 : decide (7 < l.ls) = true := decide_eq_true d5
          have c4 : Nd.inB l.ls 0 7 = false := by unfold Nd.inB; rw [decide_eq_false (p := l.ls ≤ 7) (by omega), Bool.and_false]
          have hf : Hid (T = 2) := Lib.hid (by rw [HT.out]; unfold lkE; rw [if_pos (by unfold lkB; rw [c1, c2, c3, c4]; rfl)])
          go_wp2_with fail
          go_ret
          exact ⟨ret_int (by rw [hf.out]), (HW.out _ hB3).1⟩
        have e5 : decide (7 < l.ls) = false := decide_eq_false d5
        have c4 : Nd.inB l.ls 0 7 = true := by unfold Nd.inB; rw [decide_eq_true (p := 0 ≤ l.ls) (by omega), decide_eq_true (p := l.ls ≤ 7) (by omega)]; rfl
        have HT2 : Hid (T = if prevBadL (prevL lk i) l = true then 5 else if m < 0 ∨ powAt (pw.map PRow.l) l.fr l.tt < m then 2 else 0) := Lib.hid (by rw [HT.out]; unfold lkE; rw [if_neg (by unfold lkB; rw [c1, c2, c3, c4]; decide)])
        have HI1 := Lib.hid (show (0 ≤ l.fr ∧ l.fr ≤ nodes - 1) ∧ (0 ≤ l.tt ∧ l.tt ≤ nodes - 1) from by
          simp only [Nd.inB, Bool.and_eq_true, decide_eq_true_eq] at c1 c2
          exact ⟨c1, c2⟩)
        clear HT c4 d4 d5 c1 c2
        go_upto_region 5 with fail
        clear rX e4 e5 c3
        have rX3 := bX3.row
        have rN3 := (HW.out _ hB3).2
        have hXl : X < w3.heap.size := bX3.lt
        have hNl3 : N < w3.heap.size := by have := hB3.size; omega
        have HB3s := Lib.hid (Nat.le_refl w3.heap.size)
        have yN : ∀ (x' : ExtW w3.heap.size w3) (j : Nat), x'.val.cell? ⟨N, j, none⟩ = _ := fun x' j => (x'.cell _ hNl3).trans (rN3 j)
        have yX : ∀ (x' : ExtW w3.heap.size w3) (j : Nat), x'.val.cell? ⟨X, j, none⟩ = _ := fun x' j => (x'.cell _ hXl).trans (rX3 j)
        go_cut [43] (fun s43 W => s43 = .bool (prevBadL (prevL lk i) l) ∧ Below w3.heap.size w3 W)
        case first =>
          cases i with
          | zero =>
            refine wp_region_ext w3.heap.size (by kernel_rfl) (by kernel_rfl) ?_
            repeat (go_big_quiet_step (fail))
            refine wpQuiet_nil ?_
            rintro _ ⟨x', rfl⟩
            go_wp2_with fail
            go_meet
            exact ⟨rfl, x'.below⟩
          | succ k =>
            obtain ⟨q, hq⟩ := get_of_lt (l := lk) (k := k) (by have := HNl.out; omega)
            obtain ⟨lb', loff', he', hlB', hcs'⟩ := (HL.out _ hB3).at_ hq
            have hval : prevBadL (prevL lk (k + 1)) l = decide (0 ≤ orI [Rc.cmpI q.fr l.fr, Rc.cmpI q.tt l.tt]) := by
              rw [prevL_eq]
              unfold prevL
              rw [if_neg (by omega), Nat.add_sub_cancel, hq]
            have HVal := Lib.hid hval
            clear hval
            simp only [Option.some.injEq, Addr.mk.injEq, and_true] at he'
            obtain ⟨rfl, rfl⟩ := he'
            have q0 := hcs' k q hq 0 _ rfl
            have q1 := hcs' k q hq 1 _ rfl
            have q2 := hcs' k q hq 2 _ rfl
            simp only [Nat.add_zero] at q0 q1 q2
            have y0 : ∀ (x' : ExtW w3.heap.size w3), x'.val.cell? ⟨lb, loff + k * 3, none⟩ = some (.int .i64 q.fr) := fun x' => (x'.cell _ hlB').trans q0
            have y1 : ∀ (x' : ExtW w3.heap.size w3), x'.val.cell? ⟨lb, loff + k * 3 + 1, none⟩ = some (.int .i64 q.tt) := fun x' => (x'.cell _ hlB').trans q1
            have y2 : ∀ (x' : ExtW w3.heap.size w3), x'.val.cell? ⟨lb, loff + k * 3 + 2, none⟩ = some (.int .i64 q.ls) := fun x' => (x'.cell _ hlB').trans q2
            have Con2 := Lib.hid (fun W => ncompare_any q l W)
            generalize orI [Rc.cmpI q.fr l.fr, Rc.cmpI q.tt l.tt] = V at *
            have hkl : k < nl := by omega
            have hw1 : IntKind.i64.wrap (((k + 1 : Nat) : Int) - 1) = (k : Int) := by rw [IntWalk.i64_in _ (by omega)]; omega
            have hd1 : decide ((0 : Int) < ((k + 1 : Nat) : Int)) = true := decide_eq_true (by omega)
            have hd2 : decide ((0 : Int) < (k : Int) + 1) = true := decide_eq_true (by omega)
            have hw2 : IntKind.i64.wrap ((k : Int) + 1 - 1) = (k : Int) := by rw [IntWalk.i64_in _ (by omega)]; omega
            clear q0 q1 q2 hcs' hq
            refine wp_region_ext w3.heap.size (by kernel_rfl) (by kernel_rfl) ?_
            repeat (go_big_quiet_step ((go_at_call 98; exact Calls.ext_of (Con2.out _) HB3s.out)))
            refine wpQuiet_nil ?_
            rintro _ ⟨x', rfl⟩
            go_wp2_with fail
            go_meet
            exact ⟨by rw [HVal.out], x'.below⟩
        case rest =>
          obtain ⟨rfl, hb4⟩ := hcut
          clear yN yX
          have hB4 : Below W1.heap.size W1 wc := hB3.trans (hb4.mono hB3.size)
          cases hpb : prevBadL (prevL lk i) l with
          | true =>
            have hf : Hid (T = 5) := Lib.hid (by rw [HT2.out, hpb]; rfl)
            go_wp2_with fail
            go_ret
            exact ⟨ret_int (by rw [hf.out]), (HW.out _ hB4).1⟩
          | false =>
            obtain ⟨p, v, hp, hv, hpv⟩ := pow_at HPn.out.1 HPn.out.2 HI1.out.1 HI1.out.2
            have HT3 : Hid (T = if m < 0 ∨ v < m then 2 else 0) := Lib.hid (by rw [HT2.out, hpb, hpv]; rfl)
            obtain ⟨fa, hfa⟩ : ∃ a : Nat, l.fr = (a : Int) := ⟨l.fr.toNat, by have := HI1.out; omega⟩
            obtain ⟨ta, hta⟩ : ∃ a : Nat, l.tt = (a : Int) := ⟨l.tt.toNat, by have := HI1.out; omega⟩
            rw [hfa, Int.toNat_natCast] at hp
            rw [hta, Int.toNat_natCast] at hv
            have hrl : ((p.l.length : Nat) : Int) = nodes := HPn.out.2 p (List.mem_of_getElem? hp)
            obtain ⟨pb, poff, hPe, hpB, hpcs⟩ := (HP.out _ hB4).1.at_ hp
            have pc := hpcs fa p hp 0 _ rfl
            simp only [Nat.mul_one, Nat.add_zero] at pc
            obtain ⟨vb, voff, hVe, hvB, hvc⟩ := ((HP.out _ hB4).2 p (List.mem_of_getElem? hp)).1.at_ hv
            have vc := hvc ta v hv
            obtain ⟨gb, goff, hGe, hgB, hgc⟩ := (HGm.out _ hB4).at_ HMm.out
            have gc := hgc i m HMm.out
            have rN4 := (HW.out _ hB4).2
            have rX4 := (bX3.below hb4 hXl).row
            have hfl : fa < np := by have := HI1.out; have := HPn.out.1; have := HNp.out; omega
            obtain ⟨rl, hrle⟩ : ∃ rl, rl = p.l.length := ⟨_, rfl⟩
            have htl : ta < rl := by have := HI1.out; omega
            rw [← hrle] at pc
            rw [hVe] at pc
            have hXl4 : X < wc.heap.size := Nat.lt_of_lt_of_le hXl hb4.size
            have hNl4 : N < wc.heap.size := Nat.lt_of_lt_of_le hNl3 hb4.size
            subst hPe hGe
            rw [hfa, hta] at rX4
            have yN : ∀ (x' : ExtW wc.heap.size wc) (j : Nat), x'.val.cell? ⟨N, j, none⟩ = _ := fun x' j => (x'.cell _ hNl4).trans (rN4 j)
            have yX : ∀ (x' : ExtW wc.heap.size wc) (j : Nat), x'.val.cell? ⟨X, j, none⟩ = _ := fun x' j => (x'.cell _ hXl4).trans (rX4 j)
            have yp : ∀ (x' : ExtW wc.heap.size wc), x'.val.cell? ⟨pb, poff + fa, none⟩ = some (.slice (some ⟨vb, voff, none⟩) rl p.c) := fun x' => (x'.cell _ hpB).trans pc
            have yv : ∀ (x' : ExtW wc.heap.size wc), x'.val.cell? ⟨vb, voff + ta, none⟩ = some (.int .i64 v) := fun x' => (x'.cell _ hvB).trans vc
            have yg : ∀ (x' : ExtW wc.heap.size wc), x'.val.cell? ⟨gb, goff + i, none⟩ = some (.int .i64 m) := fun x' => (x'.cell _ hgB).trans gc
            clear hpcs pc hvc vc hgc gc rN4 rX4 hpv hrl hfa hta hp hv hrle hVe HT2 hpb
            go_upto_region 7 with fail
            by_cases d6 : m < 0
            · have e6 : decide (m < 0) = true := decide_eq_true d6
              have hf : Hid (T = 2) := Lib.hid (by rw [HT3.out, if_pos (.inl d6)])
              clear d6
              refine wp_region_ext wc.heap.size (by kernel_rfl) (by kernel_rfl) ?_
              repeat (go_big_quiet_step (fail))
              refine wpQuiet_nil ?_
              rintro _ ⟨x', rfl⟩
              have hfin := (HW.out _ (hB4.trans (x'.below.mono hB4.size))).1
              go_wp2_with fail
              go_ret
              exact ⟨ret_int (by rw [hf.out]), hfin⟩
            · have e6 : decide (m < 0) = false := decide_eq_false d6
              by_cases d7 : v < m
              · have e7 : decide (v < m) = true := decide_eq_true d7
                have hf : Hid (T = 2) := Lib.hid (by rw [HT3.out, if_pos (.inr d7)])
                clear d6 d7
                refine wp_region_ext wc.heap.size (by kernel_rfl) (by kernel_rfl) ?_
                repeat (go_big_quiet_step (fail))
                refine wpQuiet_nil ?_
                rintro _ ⟨x', rfl⟩
                have hfin := (HW.out _ (hB4.trans (x'.below.mono hB4.size))).1
                go_wp2_with fail
                go_ret
                exact ⟨ret_int (by rw [hf.out]), hfin⟩
              · have e7 : decide (v < m) = false := decide_eq_false d7
                have hf : Hid (T = 0) := Lib.hid (by rw [HT3.out, if_neg (by omega)])
                clear d6 d7
                refine wp_region_ext wc.heap.size (by kernel_rfl) (by kernel_rfl) ?_
                repeat (go_big_quiet_step (fail))
                refine wpQuiet_nil ?_
                rintro _ ⟨x', rfl⟩
                have hfin := (HW.out _ (hB4.trans (x'.below.mono hB4.size))).1
                go_wp2_with fail
                go_ret
                exact ⟨ret_int (by rw [hf.out]), hfin⟩
end Go.Proofs.Ytkdigdnacggknaa
/- Walk: package network: Check. -/
namespace Go.Proofs.Ytkdigdnacggknaa
open Go.RowKit
open Nd Rc Mo

theorem powE_zero {nodes : Int} {pow : List (List Int)} (h : powE nodes pow = 0) : ((pow.length : Nat) : Int) = nodes ∧ (∀ r ∈ pow, ((r.length : Nat) : Int) = nodes) ∧ ∀ r ∈ pow, ∀ p ∈ r, 0 ≤ p ∧ p ≤ 68719476736 := by
  unfold powE at h
  split at h
  · cases h
  · rename_i h1
    split at h
    · cases h
    · rename_i h2
      refine ⟨Classical.byContradiction fun hh => h1 (.inl hh), fun r hr => ?_, fun r hr p hp => ?_⟩
      · refine Classical.byContradiction fun hh => h1 (.inr (List.any_eq_true.2 ⟨r, hr, by simpa using hh⟩))
      · refine Classical.byContradiction fun hh => h2 (List.any_eq_true.2 ⟨r, hr, List.any_eq_true.2 ⟨p, hp, ?_⟩⟩)
        unfold outP
        rw [Bool.or_eq_true, decide_eq_true_eq, decide_eq_true_eq]
        omega
theorem prevL_succ {lk : List Lk} {k : Nat} {l : Lk} (h : lk[k]? = some l) : prevL lk (k + 1) = some l := by
  unfold prevL
  rw [if_neg (by omega), Nat.add_sub_cancel, h]

set_option maxRecDepth 100000 in
set_option maxHeartbeats 4000000 in
theorem netCheck_any (nodes noise thr : Int) (pw : List PRow) (lk : List Lk) (mg : List Int) (P L G : Option Addr) (cp cl cg : Nat) (w : World) (hP : LiesP w w.heap.size P pw) (hp : pw.length ≤ 1000000) (hL : Lies w w.heap.size 3 L (lk.map Lk.row)) (hl : lk.length ≤ 1000000) (hG : LiesI w w.heap.size G mg) (hg : mg.length ≤ 1000000) :
    Calls Try.prog 49 #[.agg #[.int .i64 nodes, .slice P pw.length cp, .int .i64 noise, .int .i64 thr, .slice L lk.length cl, .slice G mg.length cg]] w fun e w' => e = .returned (.int .i64 (chkN ⟨nodes, noise, thr, pw.map PRow.l, lk, mg⟩)) ∧ Below w.heap.size w w' := by
  obtain ⟨np, hnp⟩ : ∃ n, n = pw.length := ⟨_, rfl⟩
  obtain ⟨nl, hnl⟩ : ∃ n, n = lk.length := ⟨_, rfl⟩
  obtain ⟨nm, hnm⟩ : ∃ n, n = mg.length := ⟨_, rfl⟩
  obtain ⟨T, hT⟩ : ∃ T, T = chkN ⟨nodes, noise, thr, pw.map PRow.l, lk, mg⟩ := ⟨_, rfl⟩
  obtain ⟨N, hN⟩ : ∃ N, N = w.heap.size := ⟨_, rfl⟩
  rw [← hT, ← hnp, ← hnl, ← hnm]
  unfold chkN at hT
  dsimp only at hT
  rw [← hnl, ← hnm] at hT
  obtain ⟨W1, hW1⟩ : ∃ W1, W1 = w.alloc (.cells #[.int .i64 nodes, .slice P np cp, .int .i64 noise, .int .i64 thr, .slice L nl cl, .slice G nm cg] 44) := ⟨_, rfl⟩
  have hb1 : Below N w W1 := by rw [hW1, hN]; exact (Below.refl _ _).alloc (Nat.le_refl _) _
  have bN : Blk W1 N 44 [.int .i64 nodes, .slice P np cp, .int .i64 noise, .int .i64 thr, .slice L nl cl, .slice G nm cg] := by rw [hW1]; exact Blk.new2 _ [.int .i64 nodes, .slice P np cp, .int .i64 noise, .int .i64 thr, .slice L nl cl, .slice G nm cg] hN
  have HW := Lib.hid (fun W (h' : Below W1.heap.size W1 W) => (show Below w.heap.size w W ∧ Row W N [.int .i64 nodes, .slice P np cp, .int .i64 noise, .int .i64 thr, .slice L nl cl, .slice G nm cg] from ⟨by rw [← hN]; exact hb1.trans (h'.mono (by have := bN.lt; omega)), (bN.below h' bN.lt).row⟩))
  have HPw := Lib.hid (cpow_any nodes noise thr pw lk mg P L G cp cl cg W1 (hP.later (HW.out _ (Below.refl _ _)).1) hp)
  have HLk := Lib.hid (fun (hpn : ((pw.length : Nat) : Int) = nodes) (hrow : ∀ p ∈ pw, ((p.l.length : Nat) : Int) = nodes) (he : mg.length = lk.length) i l m (hi : lk[i]? = some l) (hm : mg[i]? = some m) W (h' : Below W1.heap.size W1 W) => clink_any nodes noise thr pw lk mg P L G cp cl cg i l m W (hP.later (HW.out W h').1) hp ((hL.below (HW.out W h').1).more (HW.out W h').1.size) hl ((hG.below (HW.out W h').1).more (HW.out W h').1.size) he hpn hrow hi hm)
  rw [← hnp, ← hnl, ← hnm] at HPw HLk
  have hl6 : nl ≤ 1000000 := by omega
  have HT := Lib.hid hT
  have HNl := Lib.hid hnl
  have HNm := Lib.hid hnm
  have HNp := Lib.hid hnp
  have HN := Lib.hid hN
  have HW1 := Lib.hid hW1
  have hNl := bN.lt
  have r1 := (HW.out _ (Below.refl _ _)).2
  rw [HW1.out] at r1
  rw [HN.out] at r1
  unfold Row at r1
  clear hP hp hL hl hG hg hT hN hW1 hb1 bN hnl hnm hnp
  go_enter Try.func49, Try.ntmps49
  by_cases g1 : nodes < 2
  · have d1 : decide (nodes < 2) = true := decide_eq_true g1
    have hf : Hid (T = 2) := Lib.hid (by rw [HT.out, if_pos (.inl g1)])
    clear g1
    go_wp2_with fail
    go_ret
    exact ⟨ret_int (by rw [hf.out]), by rw [← HW1.out]; exact (HW.out _ (Below.refl _ _)).1⟩
  have d1 : decide (nodes < 2) = false := decide_eq_false g1
  by_cases g2 : 32 < nodes
  · have d2 : decide (32 < nodes) = true := decide_eq_true g2
    have hf : Hid (T = 2) := Lib.hid (by rw [HT.out, if_pos (.inr g2)])
    clear g1 g2
    go_wp2_with fail
    go_ret
    exact ⟨ret_int (by rw [hf.out]), by rw [← HW1.out]; exact (HW.out _ (Below.refl _ _)).1⟩
  have d2 : decide (32 < nodes) = false := decide_eq_false g2
  have HT1 : Hid (T = if powE nodes (pw.map PRow.l) ≠ 0 then powE nodes (pw.map PRow.l) else if Nd.inB noise 0 68719476736 = false ∨ Nd.inB thr 1000 100000 = false then 2 else if 128 < nl then 8 else if nm ≠ nl then 11 else lkGo nodes (pw.map PRow.l) none lk mg) := Lib.hid (by rw [HT.out, if_neg (by omega)])
  clear HT g1 g2
  go_wp2_with fail
  rw [← HW1.out, ← HN.out]
  refine HPw.out.mono ?_
  rintro e w2 ⟨rfl, hb2⟩
  clear HPw d1 d2 r1
  have r1 := (HW.out _ hb2).2
  unfold Row at r1
  obtain ⟨E, hE⟩ : ∃ E, E = powE nodes (pw.map PRow.l) := ⟨_, rfl⟩
  have HE := Lib.hid hE
  rw [← hE] at HT1 ⊢
  clear hE
  by_cases g3 : E = 0
  case neg =>
    have d3 : (E != 0) = true := by simpa using g3
    have hf : Hid (T = E) := Lib.hid (by rw [HT1.out, if_pos g3])
    clear g3
    go_wp2_with fail
    go_ret
    exact ⟨ret_int (by rw [hf.out]), (HW.out _ hb2).1⟩
  have d3 : (E != 0) = false := by simpa using g3
  have HT2 : Hid (T = if Nd.inB noise 0 68719476736 = false ∨ Nd.inB thr 1000 100000 = false then 2 else if 128 < nl then 8 else if nm ≠ nl then 11 else lkGo nodes (pw.map PRow.l) none lk mg) := Lib.hid (by rw [HT1.out, if_neg (by simpa using g3)])
  have HPz := Lib.hid (powE_zero (by rw [← HE.out]; exact g3 : powE nodes (pw.map PRow.l) = 0))
  clear HT1 g3 HE
  by_cases g4 : noise < 0
  · have dg4 : decide (noise < 0) = true := decide_eq_true g4
    have hf : Hid (T = 2) := Lib.hid (by rw [HT2.out, if_pos (.inl (by unfold Nd.inB; rw [decide_eq_false (p := 0 ≤ noise) (by omega)]; rfl))])
    clear g4
    go_wp2_with fail
    go_ret
    exact ⟨ret_int (by rw [hf.out]), (HW.out _ hb2).1⟩
  have dg4 : decide (noise < 0) = false := decide_eq_false g4
  by_cases g5 : 68719476736 < noise
  · have dg5 : decide (68719476736 < noise) = true := decide_eq_true g5
    have hf : Hid (T = 2) := Lib.hid (by rw [HT2.out, if_pos (.inl (by unfold Nd.inB; rw [decide_eq_false (p := noise ≤ 68719476736) (by omega), Bool.and_false]))])
    clear g4 g5
    go_wp2_with fail
    go_ret
    exact ⟨ret_int (by rw [hf.out]), (HW.out _ hb2).1⟩
  have dg5 : decide (68719476736 < noise) = false := decide_eq_false g5
  by_cases g6 : thr < 1000
  · have dg6 : decide (thr < 1000) = true := decide_eq_true g6
    have hf : Hid (T = 2) := Lib.hid (by rw [HT2.out, if_pos (.inr (by unfold Nd.inB; rw [decide_eq_false (p := 1000 ≤ thr) (by omega)]; rfl))])
    clear g4 g5 g6
    go_wp2_with fail
    go_ret
    exact ⟨ret_int (by rw [hf.out]), (HW.out _ hb2).1⟩
  have dg6 : decide (thr < 1000) = false := decide_eq_false g6
  by_cases g7 : 100000 < thr
  · have dg7 : decide (100000 < thr) = true := decide_eq_true g7
    have hf : Hid (T = 2) := Lib.hid (by rw [HT2.out, if_pos (.inr (by unfold Nd.inB; rw [decide_eq_false (p := thr ≤ 100000) (by omega), Bool.and_false]))])
    clear g4 g5 g6 g7
    go_wp2_with fail
    go_ret
    exact ⟨ret_int (by rw [hf.out]), (HW.out _ hb2).1⟩
  have dg7 : decide (100000 < thr) = false := decide_eq_false g7
  have HT3 : Hid (T = if 128 < nl then 8 else if nm ≠ nl then 11 else lkGo nodes (pw.map PRow.l) none lk mg) := Lib.hid (by rw [HT2.out, if_neg (by unfold Nd.inB; rw [decide_eq_true (p := 0 ≤ noise) (by omega), decide_eq_true (p := noise ≤ 68719476736) (by omega), decide_eq_true (p := 1000 ≤ thr) (by omega), decide_eq_true (p := thr ≤ 100000) (by omega)]; decide)])
  clear HT2 g4 g5 g6 g7
  by_cases g8 : 128 < nl
  · have d8 : decide ((128 : Int) < (nl : Int)) = true := decide_eq_true (by omega)
    have d8' : decide (128 < nl) = true := decide_eq_true g8
    have hf : Hid (T = 8) := Lib.hid (by rw [HT3.out, if_pos g8])
    go_wp2_with fail
    go_ret
    exact ⟨ret_int (by rw [hf.out]), (HW.out _ hb2).1⟩
  have d8 : decide ((128 : Int) < (nl : Int)) = false := decide_eq_false (by omega)
  have d8' : decide (128 < nl) = false := decide_eq_false g8
  by_cases g9 : nm = nl
  case neg =>
    have hf : Hid (T = 11) := Lib.hid (by rw [HT3.out, if_neg g8, if_pos g9])
    have d9 : ((nm : Int) != (nl : Int)) = true := by simp; omega
    have d9' : ¬ (nm : Int) = (nl : Int) := by omega
    go_wp2_with fail
    go_ret
    exact ⟨ret_int (by rw [hf.out]), (HW.out _ hb2).1⟩
  have HT4 : Hid (T = lkGo nodes (pw.map PRow.l) none lk mg) := Lib.hid (by rw [HT3.out, if_neg g8, if_neg (by simpa using g9)])
  have HL2 := Lib.hid (HLk.out (by have := HPz.out.1; rw [List.length_map, ← HNp.out] at this; exact this) (fun p hp => HPz.out.2.1 _ (List.mem_map_of_mem hp)) g9)
  subst g9
  have d9 : ((nm : Int) != (nm : Int)) = false := by simp
  clear HT3 HLk HPz g8
  go_wp2_with fail
  clear r1
  go_loopw [54] (fun i wr => ∃ (k : Nat), k ≤ nm ∧ i = .int .i64 k ∧ Below W1.heap.size W1 wr ∧ Hid (T = lkGo nodes (pw.map PRow.l) (prevL lk k) (lk.drop k) (mg.drop k))) (fun i _ => nm - (intOf i).toNat)
  case atStart => exact ⟨0, by omega, rfl, hb2, Lib.hid (by rw [HT4.out]; rfl)⟩
  case round =>
    clear HT4 hb2
    obtain ⟨k, hk, rfl, hb, HS⟩ := hrel
    by_cases hlt : k < nm
    · obtain ⟨l, hlk⟩ := get_of_lt (l := lk) (k := k) (by rw [← HNl.out]; exact hlt)
      obtain ⟨m, hmk⟩ := get_of_lt (l := mg) (k := k) (by rw [← HNm.out]; exact hlt)
      have Con := Lib.hid (HL2.out k l m hlk hmk wr hb)
      have HS2 : Hid (T = if lkE nodes (pw.map PRow.l) (prevL lk k) l m = 0 then lkGo nodes (pw.map PRow.l) (prevL lk (k + 1)) (lk.drop (k + 1)) (mg.drop (k + 1)) else lkE nodes (pw.map PRow.l) (prevL lk k) l m) := Lib.hid (by
        rw [HS.out, drop_of_get hlk, drop_of_get hmk, prevL_succ hlk]
        rfl)
      obtain ⟨V, hV⟩ : ∃ V, V = lkE nodes (pw.map PRow.l) (prevL lk k) l m := ⟨_, rfl⟩
      rw [← hV] at HS2 Con
      have r1 := (HW.out _ hb).2
      unfold Row at r1
      clear HS hV hlk hmk
      go_wp2_with fail
      refine Con.out.mono ?_
      rintro e w4 ⟨rfl, hb4⟩
      have hB4 : Below W1.heap.size W1 w4 := hb.trans (hb4.mono hb.size)
      clear r1 Con
      by_cases hV0 : V = 0
      · have dv : (V != 0) = false := by simpa using hV0
        have hf := Lib.hid (show T = lkGo nodes (pw.map PRow.l) (prevL lk (k + 1)) (lk.drop (k + 1)) (mg.drop (k + 1)) by rw [HS2.out, if_pos hV0])
        clear HS2 hV0
        go_wp2_with fail
        go_roundw
        case rel => exact ⟨k + 1, by omega, by go_num, hB4, hf⟩
        case measure => simp [intOf]; omega
      · have dv : (V != 0) = true := by simpa using hV0
        have hf := Lib.hid (show T = V by rw [HS2.out, if_neg hV0])
        clear HS2 hV0
        go_wp2_with fail
        go_ret
        exact ⟨ret_int (by rw [hf.out]), (HW.out _ hB4).1⟩
    · have hf : Hid (T = 0) := Lib.hid (by rw [HS.out, List.drop_of_length_le (by rw [← HNl.out]; omega)]; rfl)
      go_wp2_with fail
      go_ret
      exact ⟨ret_int (by rw [hf.out]), (HW.out _ hb).1⟩
end Go.Proofs.Ytkdigdnacggknaa
/- Networks as abstract data; network.Check lifted. -/
namespace Go.Proofs.Ytkdigdnacggknaa
open Go.RowKit
open Nd Rc Mo
open Av
set_option maxRecDepth 100000

def Mo.Lk.pv (x : Lk) : List PV := [ip x.fr, ip x.tt, ip x.ls]
def irow_pv (x : Int) : List PV := [ip x]
def prow_pv (l : List Int) : List PV := [.sl 1 (l.map irow_pv)]
def Mo.Net.pv (n : Net) : List PV := [ip n.nodes, .sl 1 (n.pow.map prow_pv), ip n.noise, ip n.thr, .sl 3 (n.lk.map Lk.pv), .sl 1 (n.mg.map irow_pv)]
theorem ints_rep {w : World} {R : Reader} {l : List Int} {u : Value} (hR : ∀ p v, R p = some v → w.cell? p = some v) (h : RepP R (.sl 1 (l.map irow_pv)) u) : ∃ A c, u = .slice A l.length c ∧ LiesI w w.heap.size A l := by
  rw [map_pv (f := irow_pv) (g := irow) (fun _ => rfl)] at h
  obtain ⟨A, c, rfl, hA⟩ := lies_of_rep hR (by decide) h
  rw [List.length_map]
  exact ⟨A, c, rfl, hA⟩
theorem links_rep {w : World} {R : Reader} {l : List Lk} {u : Value} (hR : ∀ p v, R p = some v → w.cell? p = some v) (h : RepP R (.sl 3 (l.map Lk.pv)) u) : ∃ A c, u = .slice A l.length c ∧ Lies w w.heap.size 3 A (l.map Lk.row) := by
  rw [map_pv (f := Lk.pv) (g := Lk.row) (fun _ => rfl)] at h
  obtain ⟨A, c, rfl, hA⟩ := lies_of_rep hR (by decide) h
  rw [List.length_map]
  exact ⟨A, c, rfl, hA⟩
theorem prows {w : World} {B : Nat} : ∀ (pow : List (List Int)) (g : Nat → Value), (∀ k l, pow[k]? = some l → ∃ A c, g k = .slice A l.length c ∧ LiesI w B A l) → (∀ l ∈ pow, l.length ≤ 1000000) → ∃ pw : List PRow, pw.map PRow.l = pow ∧ (∀ k p, pw[k]? = some p → g k = .slice p.A p.l.length p.c) ∧ ∀ p ∈ pw, LiesI w B p.A p.l ∧ p.l.length ≤ 1000000
  | [], g, _, _ => ⟨[], rfl, fun k p h => by simp at h, fun p h => by cases h⟩
  | l :: pow, g, h, hl => by
    obtain ⟨A, c, h1, h2⟩ := h 0 l rfl
    obtain ⟨pw, h3, h4, h5⟩ := prows pow (fun k => g (k + 1)) (fun k l' hk => h (k + 1) l' (by simpa using hk)) (fun l' hl' => hl l' (List.mem_cons_of_mem _ hl'))
    refine ⟨⟨l, A, c⟩ :: pw, by rw [List.map_cons, h3], fun k p hk => ?_, fun p hp => ?_⟩
    · cases k with
      | zero => simp at hk; subst hk; exact h1
      | succ k => exact h4 k p (by simpa using hk)
    · rcases List.mem_cons.1 hp with rfl | hp
      · exact ⟨h2, hl l List.mem_cons_self⟩
      · exact h5 p hp
theorem pow_rep {w : World} {R : Reader} {pow : List (List Int)} {u : Value} (hR : ∀ p v, R p = some v → w.cell? p = some v) (hl : ∀ l ∈ pow, l.length ≤ 1000000) (h : RepP R (.sl 1 (pow.map prow_pv)) u) : ∃ A c pw, u = .slice A pow.length c ∧ pw.map PRow.l = pow ∧ LiesP w w.heap.size A pw := by
  generalize hrows : pow.map prow_pv = rows at h
  cases h with
  | sl _ _ A cap f hsz hA hf hc =>
    have hlen : rows.length = pow.length := by rw [← hrows]; simp
    have hget : ∀ k l, pow[k]? = some l → rows[k]? = some (prow_pv l) := fun k l hk => by rw [← hrows, List.getElem?_map, hk]; rfl
    obtain ⟨pw, h1, h2, h3⟩ := prows (w := w) (B := w.heap.size) pow (fun k => f k 0) (fun k l hk => ints_rep hR (hf k _ 0 _ (hget k l hk) rfl)) hl
    refine ⟨A, cap, pw, by rw [hlen], h1, fun hne => ?_, h3⟩
    rcases hA with h0 | ⟨b, off, rfl, hA⟩
    · exfalso
      apply hne
      rw [h0] at hlen
      have : pow = [] := List.eq_nil_of_length_eq_zero hlen.symm
      rw [this] at h1
      rw [List.map_eq_nil_iff.1 h1]; rfl
    · have hcell : ∀ (k : Nat) (row : List Value), (pw.map PRow.row)[k]? = some row → ∀ (j : Nat) (x : Value), row[j]? = some x → w.cell? ⟨b, off + k * 1 + j, none⟩ = some x := fun k row hk j x hj => by
        rw [List.getElem?_map] at hk
        obtain ⟨p, hp, rfl⟩ := Option.map_eq_some_iff.1 hk
        have hpl : pow[k]? = some p.l := by rw [← h1, List.getElem?_map, hp]; rfl
        cases j with
        | zero =>
          simp [PRow.row] at hj
          subst hj
          have := hA k _ 0 _ (hget k p.l hpl) rfl
          rw [h2 k p hp] at this
          exact hR _ _ this
        | succ j => simp [PRow.row] at hj
      refine ⟨b, off, rfl, ?_, hcell⟩
      cases hpw : pw with
      | nil => rw [hpw] at hne; exact absurd rfl hne
      | cons p pw' => exact Rel.cell_lt (hcell 0 p.row (by rw [hpw]; rfl) 0 _ rfl)
theorem net_rep {w : World} {R : Reader} {bx : Nat → Nat} {n : Net} {u : Value} (hR : ∀ p v, R p = some v → w.cell? p = some v) (hl : ∀ l ∈ n.pow, l.length ≤ 1000000) (h : RepA R bx (.agg n.pv) u) :
    ∃ P L G cp cl cg pw, u = .agg #[.int .i64 n.nodes, .slice P n.pow.length cp, .int .i64 n.noise, .int .i64 n.thr, .slice L n.lk.length cl, .slice G n.mg.length cg] ∧ pw.map PRow.l = n.pow ∧ LiesP w w.heap.size P pw ∧ Lies w w.heap.size 3 L (n.lk.map Lk.row) ∧ LiesI w w.heap.size G n.mg := by
  obtain ⟨us, rfl, h⟩ := h
  cases h with
  | cons h1 h =>
  cases h with
  | cons h2 h =>
  cases h with
  | cons h3 h =>
  cases h with
  | cons h4 h =>
  cases h with
  | cons h5 h =>
  cases h with
  | cons h6 h =>
    cases h
    cases h1
    cases h3
    cases h4
    obtain ⟨P, cp, pw, rfl, e1, e2⟩ := pow_rep hR hl h2
    obtain ⟨L, cl, rfl, e3⟩ := links_rep hR h5
    obtain ⟨G, cg, rfl, e4⟩ := ints_rep hR h6
    exact ⟨P, L, G, cp, cl, cg, pw, rfl, e1, e2, e3, e4⟩
theorem ncheck_ok (n : Net) (hp : n.pow.length ≤ 1000000) (hl : ∀ l ∈ n.pow, l.length ≤ 1000000) (hk : n.lk.length ≤ 1000000) (hg : n.mg.length ≤ 1000000) : FnOK Try.prog 49 [.agg n.pv] ⟨iv (chkN n), none⟩ := fn_of ⟨Try.f49, _, Try.func49, by kernel_rfl, rfl⟩ fun w R hR us hus => by
  cases hus with | cons h0 _ hus =>
  cases hus
  obtain ⟨P, L, G, cp, cl, cg, pw, rfl, e1, e2, e3, e4⟩ := net_rep hR hl h0
  have hlen : n.pow.length = pw.length := by rw [← e1, List.length_map]
  rw [hlen]
  refine (netCheck_any n.nodes n.noise n.thr pw n.lk n.mg P L G cp cl cg w e2 (by omega) e3 hk e4 hg).mono ?_
  rintro e w' ⟨rfl, hb⟩
  rw [e1]
  exact ⟨_, rfl, hb, res_v⟩
end Go.Proofs.Ytkdigdnacggknaa
/- Keys of the monitor's maps: uses of links, links. -/
namespace Go.Proofs.Ytkdigdnacggknaa
open Go.RowKit Go.WideMaps Go.Maps Go.ChangeShapes
open Go.Maps (Keyed)
set_option maxRecDepth 100000

theorem Try.useRow : (105 : TypeId) < Try.prog.types.size := of_decide_eq_true (by kernel_rfl)
theorem Try.useKeyed : Keyed Try.prog 105 := Keyed.of_law (deep_law_laid Try.kLaid (m := 2) (by omega) Try.useRow (by kernel_rfl) (by rw [Try.underlying105]))
theorem Try.useType : Try.prog.keyType 105 = true := by kernel_rfl
theorem Try.useCells : Try.prog.cellsOf 105 = 4 := by kernel_rfl
theorem Try.lCells : Try.prog.cellsOf 102 = 2 := by kernel_rfl
theorem Try.lArr : ArrKey Try.prog 102 3 2 := ⟨Try.underlying102, by kernel_rfl, by kernel_rfl, Try.lCells⟩
theorem Try.lRow : (102 : TypeId) < Try.prog.types.size := of_decide_eq_true (by kernel_rfl)
theorem Try.lKeyed : Keyed Try.prog 102 := Keyed.of_law (deep_law_laid Try.kLaid (m := 2) (by omega) Try.lRow (by kernel_rfl) Try.lArr.wide)
theorem keyOf_link {a b : Int} (ha : Num64 a) (hb : Num64 b) : ∃ kl, keyOf Try.prog 102 (.agg #[.int .i64 a, .int .i64 b]) = some kl := ⟨_, keyOf_pair Try.lArr Try.underlying3 Try.kTypes ha hb⟩
theorem keyOf_use {a b c d : Int} (ha : Num64 a) (hb : Num64 b) (hc : Num64 c) (hd : Num64 d) : ∃ kl, keyOf Try.prog 105 (.agg #[.int .i64 a, .int .i64 b, .int .i64 c, .int .i64 d]) = some kl := by
  obtain ⟨m, hm⟩ := Try.kTypes
  unfold keyOf
  simp only [Try.underlying105]
  rw [if_pos (by simp [Try.useType, Value.formed, Try.underlying105, Try.useCells]), hm]
  unfold Program.keyLits
  simp only [Try.underlying105, Value.cells, Try.useCells]
  have h64a : (Lit.int .i64 a).wf = true := ha
  have h64b : (Lit.int .i64 b).wf = true := hb
  have h64c : (Lit.int .i64 c).wf = true := hc
  have h64d : (Lit.int .i64 d).wf = true := hd
  cases m with
  | zero => exact absurd hm (by intro h; have := Try.useRow; rw [h] at this; revert this; decide)
  | succ m => simp [Program.keyLits, Try.underlying3, Try.kOne, h64a, h64b, h64c, h64d]
theorem keyLits_int {n : Nat} {x : Value} {ls : List Lit} (h : Try.prog.keyLits (n + 1) 3 [x] = some ls) : ∃ a : Int, x = .int .i64 a ∧ Num64 a := by
  unfold Program.keyLits at h
  rw [Try.underlying3] at h
  cases x with
  | int q a =>
    dsimp only at h
    split at h
    · rename_i hq
      obtain ⟨rfl, hw⟩ := hq
      exact ⟨a, rfl, hw⟩
    · cases h
  | _ => cases h
theorem keyOf_use_inv {key : Value} {kl : Lit} (h : keyOf Try.prog 105 key = some kl) : ∃ a b c d : Int, key = .agg #[.int .i64 a, .int .i64 b, .int .i64 c, .int .i64 d] ∧ Num64 a ∧ Num64 b ∧ Num64 c ∧ Num64 d := by
  obtain ⟨m, hm⟩ := Try.kTypes
  unfold keyOf at h
  simp only [Try.underlying105] at h
  split at h
  · rename_i hf
    rw [Bool.and_eq_true] at hf
    obtain ⟨_, hf⟩ := hf
    cases key with
    | agg cs =>
      simp only [Value.formed, Try.underlying105, Try.useCells, beq_iff_eq] at hf
      obtain ⟨l⟩ := cs
      match l, hf with
      | [x1, x2, x3, x4], _ =>
        rw [hm] at h
        cases m with
        | zero => exact absurd hm (by intro h; have := Try.useRow; rw [h] at this; revert this; decide)
        | succ m =>
          unfold Program.keyLits at h
          simp only [Try.underlying105, Value.cells, Try.useCells] at h
          simp only [Try.kOne, List.drop_succ_cons, List.drop_zero, List.take_succ_cons, List.take_zero, List.take_nil, List.mapM_cons, List.mapM_nil] at h
          cases e1 : Try.prog.keyLits (m + 2) 3 [x1] with
          | none => simp [e1] at h
          | some l1 =>
            cases e2 : Try.prog.keyLits (m + 2) 3 [x2] with
            | none => simp [e1, e2] at h
            | some l2 =>
              cases e3 : Try.prog.keyLits (m + 2) 3 [x3] with
              | none => simp [e1, e2, e3] at h
              | some l3 =>
                cases e4 : Try.prog.keyLits (m + 2) 3 [x4] with
                | none => simp [e1, e2, e3, e4] at h
                | some l4 =>
                  obtain ⟨a, rfl, ha⟩ := keyLits_int e1
                  obtain ⟨b, rfl, hb⟩ := keyLits_int e2
                  obtain ⟨c, rfl, hc⟩ := keyLits_int e3
                  obtain ⟨d, rfl, hd⟩ := keyLits_int e4
                  exact ⟨a, b, c, d, rfl, ha, hb, hc, hd⟩
    | tuple cs => simp [Value.formed] at hf
    | _ => simp [Value.formed, Try.underlying105] at hf
  · cases h
end Go.Proofs.Ytkdigdnacggknaa
/- The uses of links that a record has, each with a box of its own: as boxes and owned rows of an abstract state. -/
namespace Go.Proofs.Ytkdigdnacggknaa
open Go.RowKit
open Nd Rc Mo
open Av

/-- A use of a link for a frame; g: its record's block; al: the record's attempts. -/
structure Us where
  (fl fr fm tt : Int) (g : Nat) (al : List Att)
def Us.row (u : Us) : List PV := [ip 0, .sl 8 (u.al.map Att.pv), .v (.slice none 0 0)]
def dynBox (U : List Us) : List (Nat × List PV) := U.map fun u => (u.g + 1000000, u.row)
def dynOwn (T : TypeId) (U : List Us) : List (Av.Loc × (TypeId × Nat)) := U.map fun u => (.b (u.g + 1000000) 1, (T, 8))
theorem look_dyn_small {U : List Us} {d : Nat} (h : d < 1000000) : Av.look (dynBox U) d = none := by
  induction U with
  | nil => rfl
  | cons u U ih =>
    unfold dynBox at ih ⊢
    rw [List.map_cons, Av.look_cons, if_neg (by omega), ih]
theorem look_dyn {U : List Us} {g : Nat} : Av.look (dynBox U) (g + 1000000) = (U.find? fun u => u.g == g).map Us.row := by
  induction U with
  | nil => rfl
  | cons u U ih =>
    unfold dynBox at ih ⊢
    rw [List.map_cons, Av.look_cons]
    by_cases h : u.g = g
    · rw [if_pos (by omega), List.find?_cons_of_pos (by simpa using h)]; rfl
    · rw [if_neg (by omega), ih, List.find?_cons_of_neg (by simpa using h)]
theorem lookL_dyn_s {T : TypeId} {U : List Us} {t : Nat} : lookL (dynOwn T U) (.s t) = none := by
  induction U with
  | nil => rfl
  | cons u U ih =>
    unfold dynOwn at ih ⊢
    rw [List.map_cons, Av.lookL_cons, if_neg (by simp), ih]
theorem lookL_dyn_b {T : TypeId} {U : List Us} {g : Nat} : lookL (dynOwn T U) (.b (g + 1000000) 1) = (U.find? fun u => u.g == g).map fun _ => (T, 8) := by
  induction U with
  | nil => rfl
  | cons u U ih =>
    unfold dynOwn at ih ⊢
    rw [List.map_cons, Av.lookL_cons]
    by_cases h : u.g = g
    · rw [if_pos (by rw [h]), List.find?_cons_of_pos (by simpa using h)]; rfl
    · rw [if_neg (by simp; exact fun e => h (by omega)), ih, List.find?_cons_of_neg (by simpa using h)]
theorem filter_dyn_s {T : TypeId} {U : List Us} {t : Nat} : List.filter (fun x => !x.1 == Av.Loc.s t) (dynOwn T U) = dynOwn T U := by
  refine List.filter_eq_self.2 fun x hx => ?_
  obtain ⟨u, _, rfl⟩ := List.mem_map.1 hx
  rfl
theorem keepL_dyn {T : TypeId} {U : List Us} {k o n : Nat} (hk : k < 1000000) : Av.keepL (dynOwn T U) k o n = dynOwn T U := by
  refine List.filter_eq_self.2 fun x hx => ?_
  obtain ⟨u, _, rfl⟩ := List.mem_map.1 hx
  show (!(decide (u.g + 1000000 = k) && _)) = true
  rw [decide_eq_false (by omega)]; rfl
theorem dynBox_nil : dynBox [] = [] := rfl
theorem dynOwn_nil (T : TypeId) : dynOwn T [] = [] := rfl
theorem allS_dyn {f : Nat → Option (List PV)} {U : List Us} : Av.AllS f (dynBox U) ↔ ∀ u ∈ U, f (u.g + 1000000) = some u.row := by
  induction U with
  | nil => exact ⟨fun _ u h => (by cases h), fun _ => trivial⟩
  | cons u U ih =>
    unfold dynBox at ih ⊢
    rw [List.map_cons]
    show (_ ∧ _) ↔ _
    rw [ih]
    simp
theorem allO_dyn {σ σ' : Av.St} {T : TypeId} {U : List Us} : Av.AllO σ σ' (dynOwn T U) ↔ ∀ u ∈ U, Av.lookL σ.own (.b (u.g + 1000000) 1) = some (T, 8) ∧ σ'.avAt (.b (u.g + 1000000) 1) = σ.avAt (.b (u.g + 1000000) 1) := by
  induction U with
  | nil => exact ⟨fun _ u h => (by cases h), fun _ => trivial⟩
  | cons u U ih =>
    unfold dynOwn at ih ⊢
    rw [List.map_cons]
    show (_ ∧ _) ↔ _
    rw [ih]
    simp
end Go.Proofs.Ytkdigdnacggknaa
/- Breaches: what the maps hold, plain. -/
namespace Go.Proofs.Ytkdigdnacggknaa
open Go.RowKit
open Nd Rc Mo
open Av
set_option maxRecDepth 100000
set_option linter.unusedSimpArgs false
open Go.Maps

theorem lkGo_lkB {nodes : Int} {pow : List (List Int)} : ∀ {p : Option Lk} {l : List Lk} {ms : List Int}, lkGo nodes pow p l ms = 0 → ∀ x ∈ l, lkB nodes x = true
  | _, [], _, _, x, hx => by cases hx
  | p, y :: l, ms, h, x, hx => by
    unfold lkGo at h
    split at h
    · rename_i h0
      rcases List.mem_cons.1 hx with rfl | hx
      · cases hb : lkB nodes x with
        | true => rfl
        | false => unfold lkE at h0; rw [if_pos hb] at h0; cases h0
      · exact lkGo_lkB h x hx
    · rename_i h0
      exact absurd h h0
theorem chkN_links {n : Net} (h : chkN n = 0) : n.nodes ≤ 32 ∧ ∀ x ∈ n.lk, 0 ≤ x.fr ∧ x.fr < 32 ∧ 0 ≤ x.tt ∧ x.tt < 32 ∧ 0 ≤ x.ls ∧ x.ls ≤ 7 := by
  unfold chkN at h
  split at h
  · cases h
  · rename_i h1
    split at h
    · rename_i h2; exact absurd h h2
    · split at h
      · cases h
      · split at h
        · cases h
        · split at h
          · cases h
          · refine ⟨by omega, fun x hx => ?_⟩
            have := lkGo_lkB h x hx
            simp only [lkB, Nd.inB, Bool.and_eq_true, decide_eq_true_eq] at this
            omega
def lossAt (l : List Lk) (a b : Int) : Option Int := (l.reverse.find? (fun x => x.fr == a && x.tt == b)).map Lk.ls
/-- The map holds the losses of the first k links. -/
def LossG (l : List Lk) (k : Nat) (G : Value → Option (DataW Unit)) : Prop := ∀ a b : Int, G (.agg #[.int .i64 a, .int .i64 b]) = (lossAt (l.take k) a b).map fun x => .lit (.int .i64 x)
theorem LossG.nil (l : List Lk) : LossG l 0 (fun _ => none) := fun a b => rfl
theorem LossG.succ {l : List Lk} {k : Nat} {G G' : Value → Option (DataW Unit)} {d : Lk} (h : LossG l k G) (hd : l[k]? = some d) (h1 : G' (.agg [.int .i64 d.fr, .int .i64 d.tt].toArray) = some (.lit (.int .i64 d.ls))) (h2 : ∀ y, y ≠ .agg [.int .i64 d.fr, .int .i64 d.tt].toArray → G' y = G y) : LossG l (k + 1) G' := fun a b => by
  have hT : l.take (k + 1) = l.take k ++ [d] := by rw [List.take_add_one, hd]; rfl
  unfold lossAt
  rw [hT, List.reverse_append, List.reverse_singleton, List.singleton_append]
  by_cases he : a = d.fr ∧ b = d.tt
  · obtain ⟨rfl, rfl⟩ := he
    rw [List.find?_cons_of_pos (by simp), h1]; rfl
  · rw [List.find?_cons_of_neg (by simp; intro e1 e2; exact he ⟨e1.symm, e2.symm⟩), h2 _ (fun e => he (by simpa using e))]
    exact h a b
def Us.key (u : Us) (a b c d : Int) : Bool := u.fl == a && u.fr == b && u.fm == c && u.tt == d
theorem key_iff {u : Us} {a b c d : Int} : u.key a b c d = true ↔ u.fl = a ∧ u.fr = b ∧ u.fm = c ∧ u.tt = d := by simp [Us.key, and_assoc]
def useAt (U : List Us) (a b c d : Int) : Option Us := U.find? fun u => u.key a b c d
def inUse (u : Us) (a : Att) : Bool := u.key a.cl a.f a.cf a.ct
structure UsesOK (lk : List Lk) (al : List Att) (k : Nat) (U : List Us) (G : Value → Option (DataW Unit)) : Prop where
  uniq : ∀ u ∈ U, U.find? (fun x => x.g == u.g) = some u
  keys : ∀ u ∈ U, useAt U u.fl u.fr u.fm u.tt = some u
  att : ∀ u ∈ U, u.al = (al.take k).filter (inUse u)
  cover : ∀ a ∈ al.take k, (useAt U a.cl a.f a.cf a.ct).isSome = true
  loss : ∀ a ∈ al.take k, (lossAt lk a.cf a.ct).isSome = true
  map : ∀ a b c d : Int, G (.agg #[.int .i64 a, .int .i64 b, .int .i64 c, .int .i64 d]) = (useAt U a b c d).map fun u => .lit (.int .i64 (u.g : Int))
def dropU (g : Nat) (U : List Us) : List Us := U.filter fun u => !(u.g == g)
theorem mem_dropU {g : Nat} {U : List Us} {u : Us} : u ∈ dropU g U ↔ u ∈ U ∧ u.g ≠ g := by simp [dropU]
theorem find_dropU {g : Nat} {U : List Us} {p : Us → Bool} {u : Us} (h : U.find? p = some u) (hg : u.g ≠ g) : (dropU g U).find? p = some u := by
  induction U with
  | nil => cases h
  | cons x U ih =>
    unfold dropU at ih ⊢
    cases hp : p x with
    | true =>
      rw [List.find?_cons_of_pos hp] at h
      cases h
      rw [List.filter_cons_of_pos (by simpa using hg), List.find?_cons_of_pos hp]
    | false =>
      rw [List.find?_cons_of_neg (by simp [hp])] at h
      by_cases hx : x.g = g
      · rw [List.filter_cons_of_neg (by simpa using hx)]; exact ih h
      · rw [List.filter_cons_of_pos (by simpa using hx), List.find?_cons_of_neg (by simp [hp])]; exact ih h
theorem find_dropU_none {g : Nat} {U : List Us} {p : Us → Bool} (h : U.find? p = none) : (dropU g U).find? p = none := by
  rw [List.find?_eq_none] at h ⊢
  exact fun x hx => h x (mem_dropU.1 hx).1
theorem takeSnoc {α : Type} {l : List α} {k : Nat} {d : α} (h : l[k]? = some d) : l.take (k + 1) = l.take k ++ [d] := by rw [List.take_add_one, h]; rfl
section
variable {lk : List Lk} {al : List Att} {k : Nat} {U : List Us} {G G' : Value → Option (DataW Unit)}
theorem UsesOK.nil : UsesOK lk al 0 [] (fun _ => none) := ⟨fun u h => (by cases h), fun u h => (by cases h), fun u h => (by cases h), fun a h => (by simp at h), fun a h => (by simp at h), fun _ _ _ _ => rfl⟩
/-- A use that has no attempts yet. -/
theorem UsesOK.new (h : UsesOK lk al k U G) {a b c d : Int} {g : Nat} (hn : useAt U a b c d = none) (hg : ∀ u ∈ U, u.g ≠ g) (h1 : G' (.agg [.int .i64 a, .int .i64 b, .int .i64 c, .int .i64 d].toArray) = some (.lit (.int .i64 (g : Int)))) (h2 : ∀ y, y ≠ .agg [.int .i64 a, .int .i64 b, .int .i64 c, .int .i64 d].toArray → G' y = G y) : UsesOK lk al k (⟨a, b, c, d, g, []⟩ :: U) G' := by
  have hk : ∀ a' b' c' d', (⟨a, b, c, d, g, []⟩ : Us).key a' b' c' d' = true ↔ a = a' ∧ b = b' ∧ c = c' ∧ d = d' := fun _ _ _ _ => key_iff
  have hself : (⟨a, b, c, d, g, []⟩ : Us).key a b c d = true := (hk _ _ _ _).2 ⟨rfl, rfl, rfl, rfl⟩
  have hat : ∀ a' b' c' d', useAt (⟨a, b, c, d, g, []⟩ :: U) a' b' c' d' = if a = a' ∧ b = b' ∧ c = c' ∧ d = d' then some ⟨a, b, c, d, g, []⟩ else useAt U a' b' c' d' := fun a' b' c' d' => by
    unfold useAt
    by_cases hc : a = a' ∧ b = b' ∧ c = c' ∧ d = d'
    · rw [if_pos hc, List.find?_cons_of_pos (p := fun u : Us => u.key a' b' c' d') ((hk _ _ _ _).2 hc)]
    · rw [if_neg hc, List.find?_cons_of_neg (p := fun u : Us => u.key a' b' c' d') (fun e => hc ((hk _ _ _ _).1 e))]
  refine ⟨fun u hu => ?_, fun u hu => ?_, fun u hu => ?_, fun x hx => ?_, h.loss, fun a' b' c' d' => ?_⟩
  · rcases List.mem_cons.1 hu with rfl | hu
    · rw [List.find?_cons_of_pos (by simp)]
    · rw [List.find?_cons_of_neg (by simpa using fun e => hg u hu e.symm)]; exact h.uniq u hu
  · rw [hat]
    rcases List.mem_cons.1 hu with rfl | hu
    · rw [if_pos ⟨rfl, rfl, rfl, rfl⟩]
    · have h3 := h.keys u hu
      by_cases hc : a = u.fl ∧ b = u.fr ∧ c = u.fm ∧ d = u.tt
      · obtain ⟨rfl, rfl, rfl, rfl⟩ := hc
        rw [h3] at hn; cases hn
      · rw [if_neg hc]; exact h3
  · rcases List.mem_cons.1 hu with rfl | hu
    · refine (List.filter_eq_nil_iff.2 fun x hx => ?_).symm
      intro e
      have h3 := h.cover x hx
      obtain ⟨rfl, rfl, rfl, rfl⟩ := (hk _ _ _ _).1 e
      rw [hn] at h3; cases h3
    · exact h.att u hu
  · rw [hat]
    split
    · rfl
    · exact h.cover x hx
  · rw [hat]
    by_cases hc : a = a' ∧ b = b' ∧ c = c' ∧ d = d'
    · obtain ⟨rfl, rfl, rfl, rfl⟩ := hc
      rw [if_pos ⟨rfl, rfl, rfl, rfl⟩]; exact h1
    · rw [if_neg hc, h2 _ (fun e => hc (by simpa using (show a' = a ∧ b' = b ∧ c' = c ∧ d' = d by simpa using e) |>.imp Eq.symm (fun h => h.imp Eq.symm (fun h => h.imp Eq.symm Eq.symm))))]
      exact h.map a' b' c' d'
/-- An attempt more. -/
theorem UsesOK.succ (h : UsesOK lk al k U G) {x : Att} {u : Us} (hx : al[k]? = some x) (hu : useAt U x.cl x.f x.cf x.ct = some u) (hl : (lossAt lk x.cf x.ct).isSome = true) : UsesOK lk al (k + 1) (⟨x.cl, x.f, x.cf, x.ct, u.g, u.al ++ [x]⟩ :: dropU u.g U) G := by
  have hT := takeSnoc hx
  have hu' : U.find? (fun u => u.key x.cl x.f x.cf x.ct) = some u := hu
  have hmem : u ∈ U := List.mem_of_find?_eq_some hu'
  have hkey : u.key x.cl x.f x.cf x.ct = true := List.find?_some (p := fun u : Us => u.key x.cl x.f x.cf x.ct) hu'
  obtain ⟨q1, q2, q3, q4⟩ := key_iff.1 hkey
  have hk : ∀ a' b' c' d', (⟨x.cl, x.f, x.cf, x.ct, u.g, u.al ++ [x]⟩ : Us).key a' b' c' d' = u.key a' b' c' d' := fun a' b' c' d' => by unfold Us.key; rw [q1, q2, q3, q4]
  -- others have other keys
  have hoth : ∀ v ∈ U, v.g ≠ u.g → v.key x.cl x.f x.cf x.ct = false := fun v hv hg => by
    cases hb : v.key x.cl x.f x.cf x.ct with
    | false => rfl
    | true =>
      obtain ⟨e1, e2, e3, e4⟩ := key_iff.1 hb
      have h3 := h.keys v hv
      rw [e1, e2, e3, e4, hu] at h3
      exact absurd (congrArg Us.g (Option.some.inj h3)).symm hg
  have hat : ∀ a' b' c' d', useAt (⟨x.cl, x.f, x.cf, x.ct, u.g, u.al ++ [x]⟩ :: dropU u.g U) a' b' c' d' = (useAt U a' b' c' d').map fun v => if v.g = u.g then ⟨x.cl, x.f, x.cf, x.ct, u.g, u.al ++ [x]⟩ else v := fun a' b' c' d' => by
    unfold useAt
    by_cases hc : u.key a' b' c' d' = true
    · obtain ⟨r1, r2, r3, r4⟩ := key_iff.1 hc
      have h3 := h.keys u hmem
      unfold useAt at h3
      rw [r1, r2, r3, r4] at h3
      rw [List.find?_cons_of_pos (p := fun u : Us => u.key a' b' c' d') ((hk _ _ _ _).trans hc), h3, Option.map_some, if_pos rfl]
    · rw [List.find?_cons_of_neg (p := fun u : Us => u.key a' b' c' d') (by rw [hk]; exact hc)]
      cases hf : U.find? (fun u => u.key a' b' c' d') with
      | none => rw [find_dropU_none hf]; rfl
      | some v =>
        have hv := List.mem_of_find?_eq_some hf
        have hvk : v.key a' b' c' d' = true := List.find?_some (p := fun u : Us => u.key a' b' c' d') hf
        have hg : v.g ≠ u.g := fun e => by
          have h3 := h.uniq v hv
          rw [e, h.uniq u hmem] at h3
          cases Option.some.inj h3
          exact hc hvk
        rw [find_dropU hf hg, Option.map_some, if_neg hg]
  refine ⟨fun v hv => ?_, fun v hv => ?_, fun v hv => ?_, fun y hy => ?_, fun y hy => ?_, fun a' b' c' d' => ?_⟩
  · rcases List.mem_cons.1 hv with rfl | hv
    · rw [List.find?_cons_of_pos (by simp)]
    · obtain ⟨h3, h4⟩ := mem_dropU.1 hv
      rw [List.find?_cons_of_neg (by simpa using fun e => h4 e.symm)]
      exact find_dropU (h.uniq v h3) h4
  · rw [hat]
    rcases List.mem_cons.1 hv with rfl | hv
    · show (useAt U x.cl x.f x.cf x.ct).map _ = _
      rw [hu, Option.map_some, if_pos rfl]
    · obtain ⟨h3, h4⟩ := mem_dropU.1 hv
      rw [h.keys v h3, Option.map_some, if_neg h4]
  · rw [hT, List.filter_append]
    rcases List.mem_cons.1 hv with rfl | hv
    · have h3 := h.att u hmem
      show u.al ++ [x] = _
      have e1 : (inUse ⟨x.cl, x.f, x.cf, x.ct, u.g, u.al ++ [x]⟩) = inUse u := by funext y; unfold inUse; rw [hk]
      rw [e1, List.filter_cons_of_pos (show inUse u x = true from hkey), List.filter_nil, ← h3]
    · obtain ⟨h3, h4⟩ := mem_dropU.1 hv
      rw [List.filter_cons_of_neg (by rw [show inUse v x = false from hoth v h3 h4]; decide), List.filter_nil, List.append_nil]
      exact h.att v h3
  · rw [hat, Option.isSome_map]
    rw [hT] at hy
    rcases List.mem_append.1 hy with hy | hy
    · exact h.cover y hy
    · simp only [List.mem_cons, List.not_mem_nil, or_false] at hy
      subst hy
      rw [hu]; rfl
  · rw [hT] at hy
    rcases List.mem_append.1 hy with hy | hy
    · exact h.loss y hy
    · simp only [List.mem_cons, List.not_mem_nil, or_false] at hy
      subst hy
      exact hl
  · rw [hat, h.map, Option.map_map]
    congr 1
    funext v
    show _ = DataW.lit (Lit.int .i64 ((if v.g = u.g then _ else v : Us).g : Int))
    split
    · rename_i e; rw [e]
    · rfl
theorem UsesOK.at (h : UsesOK lk al k U G) {a b c d : Int} {g : Nat} (hg : G (.agg [.int .i64 a, .int .i64 b, .int .i64 c, .int .i64 d].toArray) = some (.lit (.int .i64 (g : Int)))) : ∃ u ∈ U, u.g = g ∧ useAt U a b c d = some u := by
  have h1 := h.map a b c d
  rw [show (#[.int .i64 a, .int .i64 b, .int .i64 c, .int .i64 d] : Array Value) = [.int .i64 a, .int .i64 b, .int .i64 c, .int .i64 d].toArray from rfl, hg] at h1
  cases hu : useAt U a b c d with
  | none => rw [hu] at h1; cases h1
  | some u =>
    rw [hu] at h1
    simp only [Option.map_some, Option.some.injEq, DataW.lit.injEq, Lit.int.injEq, true_and] at h1
    exact ⟨u, List.mem_of_find?_eq_some hu, by omega, rfl⟩
theorem UsesOK.no (h : UsesOK lk al k U G) {a b c d : Int} (hg : G (.agg [.int .i64 a, .int .i64 b, .int .i64 c, .int .i64 d].toArray) = none) : useAt U a b c d = none := by
  have h1 := h.map a b c d
  rw [show (#[.int .i64 a, .int .i64 b, .int .i64 c, .int .i64 d] : Array Value) = [.int .i64 a, .int .i64 b, .int .i64 c, .int .i64 d].toArray from rfl, hg] at h1
  cases hu : useAt U a b c d with
  | none => rfl
  | some u => rw [hu] at h1; cases h1
theorem UsesOK.look (h : UsesOK lk al k U G) {u : Us} (hu : u ∈ U) : Av.look (dynBox U) (u.g + 1000000) = some u.row := by rw [look_dyn, h.uniq u hu]; rfl
theorem UsesOK.own (h : UsesOK lk al k U G) {u : Us} (hu : u ∈ U) (T : TypeId) : lookL (dynOwn T U) (.b (u.g + 1000000) 1) = some (T, 8) := by rw [lookL_dyn_b, h.uniq u hu]; rfl
end
theorem useAt_head (a b c d : Int) (g : Nat) (al : List Att) (U : List Us) : useAt (⟨a, b, c, d, g, al⟩ :: U) a b c d = some ⟨a, b, c, d, g, al⟩ := by
  unfold useAt
  rw [List.find?_cons_of_pos (p := fun u : Us => u.key a b c d) (key_iff.2 ⟨rfl, rfl, rfl, rfl⟩)]
theorem LossG.some {l : List Lk} {G : Value → Option (DataW Unit)} (h : LossG l l.length G) {a b : Int} {x : DataW Unit} (hg : G (.agg [.int .i64 a, .int .i64 b].toArray) = some x) : (lossAt l a b).isSome = true := by
  have h1 := h a b
  rw [List.take_length, show (#[.int .i64 a, .int .i64 b] : Array Value) = [.int .i64 a, .int .i64 b].toArray from rfl, hg] at h1
  cases hl : lossAt l a b with
  | none => rw [hl] at h1; cases h1
  | some y => rfl
theorem LossG.no {l : List Lk} {G : Value → Option (DataW Unit)} (h : LossG l l.length G) {a b : Int} (hg : G (.agg [.int .i64 a, .int .i64 b].toArray) = none) : lossAt l a b = none := by
  have h1 := h a b
  rw [List.take_length, show (#[.int .i64 a, .int .i64 b] : Array Value) = [.int .i64 a, .int .i64 b].toArray from rfl, hg] at h1
  cases hl : lossAt l a b with
  | none => rfl
  | some y => rw [hl] at h1; cases h1
theorem LossG.at {l : List Lk} {G : Value → Option (DataW Unit)} (h : LossG l l.length G) {a b x : Int} (hg : G (.agg [.int .i64 a, .int .i64 b].toArray) = .some (.lit (.int .i64 x))) : lossAt l a b = .some x := by
  have h1 := h a b
  rw [List.take_length, show (#[.int .i64 a, .int .i64 b] : Array Value) = [.int .i64 a, .int .i64 b].toArray from rfl, hg] at h1
  cases hl : lossAt l a b with
  | none => rw [hl] at h1; cases h1
  | some y => rw [hl] at h1; simp only [Option.map_some, Option.some.injEq, DataW.lit.injEq, Lit.int.injEq, true_and] at h1; rw [h1]
theorem dynBox_cons (u : Us) (U : List Us) : dynBox (u :: U) = (u.g + 1000000, u.row) :: dynBox U := rfl
theorem dynOwn_cons (T : TypeId) (u : Us) (U : List Us) : dynOwn T (u :: U) = (.b (u.g + 1000000) 1, (T, 8)) :: dynOwn T U := rfl
theorem filter_dyn_b {T : TypeId} {U : List Us} {g : Nat} : List.filter (fun x => !x.1 == Av.Loc.b (g + 1000000) 1) (dynOwn T U) = dynOwn T (dropU g U) := by
  unfold dynOwn dropU
  rw [List.filter_map]
  refine congrArg (List.map _) (List.filter_congr fun u _ => ?_)
  rw [Function.comp_apply]
  dsimp only
  have e : (u.g + 1000000 == g + 1000000) = (u.g == g) := by rw [Bool.eq_iff_iff, beq_iff_eq, beq_iff_eq]; omega
  rw [loc_bb, e, show (1 == 1) = true from rfl, Bool.and_true]
theorem keepL_dyn_b {T : TypeId} {U : List Us} {g : Nat} : Av.keepL (dynOwn T U) (g + 1000000) 1 1 = dynOwn T (dropU g U) := by
  unfold dynOwn dropU Av.keepL
  rw [List.filter_map]
  refine congrArg (List.map _) (List.filter_congr fun u _ => ?_)
  rw [Function.comp_apply]
  have hh : Av.hitB (g + 1000000) 1 1 (.b (u.g + 1000000) 1) = (u.g == g) := by
    unfold Av.hitB
    dsimp only
    rw [Bool.eq_iff_iff]
    simp
  rw [hh]
theorem dropU_idem {U : List Us} {g : Nat} : dropU g (dropU g U) = dropU g U := by
  unfold dropU
  rw [List.filter_filter]
  exact List.filter_congr fun u _ => by rw [Bool.and_self]

theorem lookBig {α : Type} {j g : Nat} {x : α} {l : List (Nat × α)} (h : j < 1000000) : Av.look ((j, x) :: l) (g + 1000000) = Av.look l (g + 1000000) := by rw [Av.look_cons, if_neg (by omega)]
theorem keepL_nil {k o n : Nat} : Av.keepL [] k o n = [] := rfl
theorem keepL_cons_s {t k o n : Nat} {x : TypeId × Nat} {l : List (Av.Loc × (TypeId × Nat))} : Av.keepL ((.s t, x) :: l) k o n = (.s t, x) :: Av.keepL l k o n := rfl
theorem keepL_cons_b {j off k o n : Nat} {x : TypeId × Nat} {l : List (Av.Loc × (TypeId × Nat))} : Av.keepL ((.b j off, x) :: l) k o n = if (decide (j = k) && (decide (o ≤ off) && decide (off < o + n))) = true then Av.keepL l k o n else (.b j off, x) :: Av.keepL l k o n := by
  unfold Av.keepL
  by_cases h : (decide (j = k) && (decide (o ≤ off) && decide (off < o + n))) = true
  · rw [if_pos h, List.filter_cons_of_neg (by show ¬ (!(_ : Bool)) = true; rw [show Av.hitB k o n (.b j off) = true from h]; decide)]
  · rw [if_neg h, List.filter_cons_of_pos (by show (!(_ : Bool)) = true; rw [show Av.hitB k o n (.b j off) = false from (Bool.not_eq_true _).mp h]; rfl)]
theorem attsGo_all {slots : Int} : ∀ {l : List Att} {p : Option Att} {S : List Int} {x : Int}, attsGo slots p S x l = true → ∀ a ∈ l, attB a slots = true
  | [], _, _, _, _, a, ha => by cases ha
  | y :: l, p, S, x, h, a, ha => by
    unfold attsGo at h
    split at h
    · cases h
    · rename_i h0
      have hy : attB y slots = true := by
        cases hb : attB y slots with
        | true => rfl
        | false => exact absurd (by simp [hb]) h0
      rcases List.mem_cons.1 ha with rfl | ha
      · exact hy
      · split at h
        · split at h
          · cases h
          · exact attsGo_all h a ha
        · exact attsGo_all h a ha
theorem dynBox_ren {U : List Us} {k g : Nat} (hk : k < 1000000) : (dynBox U).map (fun x => (if x.1 = k then g else x.1, x.2)) = dynBox U := by
  unfold dynBox
  rw [List.map_map]
  refine List.map_congr_left fun u _ => ?_
  rw [Function.comp_apply]
  dsimp only
  rw [if_neg (by omega)]
theorem dropU_self {a b c d : Int} {g : Nat} {al : List Att} {U : List Us} : dropU g (⟨a, b, c, d, g, al⟩ :: U) = dropU g U := List.filter_cons_of_neg (by simp)
section
variable {lk : List Lk} {al : List Att} {k : Nat} {U : List Us} {G G' : Value → Option (DataW Unit)}
theorem UsesOK.lookD (h : UsesOK lk al k U G) {g : Nat} {v : Us} (hv : v ∈ dropU g U) : Av.look (dynBox (dropU g U)) (v.g + 1000000) = some v.row := by
  obtain ⟨h1, h2⟩ := mem_dropU.1 hv
  rw [look_dyn, find_dropU (h.uniq v h1) h2]; rfl
theorem UsesOK.ownD (h : UsesOK lk al k U G) {g : Nat} {v : Us} (hv : v ∈ dropU g U) (T : TypeId) : lookL (dynOwn T (dropU g U)) (.b (v.g + 1000000) 1) = some (T, 8) := by
  obtain ⟨h1, h2⟩ := mem_dropU.1 hv
  rw [lookL_dyn_b, find_dropU (h.uniq v h1) h2]; rfl
theorem lookL_other {α : Type} {g g' : Nat} (hg : g' ≠ g) {x : α} {l : List (Av.Loc × α)} : Av.lookL ((.b (g + 1000000) 1, x) :: l) (.b (g' + 1000000) 1) = Av.lookL l (.b (g' + 1000000) 1) := by
  rw [Av.lookL_cons, if_neg (by simp; omega)]
theorem lookL_sb {α : Type} {t j off : Nat} {x : α} {l : List (Av.Loc × α)} : Av.lookL ((.s t, x) :: l) (.b j off) = Av.lookL l (.b j off) := by
  rw [Av.lookL_cons, if_neg (by simp)]
theorem avAt_of {σ σ' : Av.St} {k off : Nat} {cs : List PV} (h : Av.look σ'.box k = some cs) (h' : Av.look σ.box k = some cs) : σ'.avAt (.b k off) = σ.avAt (.b k off) := by
  show ((Av.look σ'.box k).bind (·[off]?)).map PV.av = ((Av.look σ.box k).bind (·[off]?)).map PV.av
  rw [h, h']
theorem look_other {α : Type} {g g' : Nat} (hg : g' ≠ g) {x : α} {l : List (Nat × α)} : Av.look ((g + 1000000, x) :: l) (g' + 1000000) = Av.look l (g' + 1000000) := by
  rw [Av.look_cons, if_neg (by omega)]
end
theorem zero_of {T : TypeId} {z : Value} (h : (Try.prog.info? T).map (·.zero) = some (some z)) (w : World) : (zeroValue T).run Try.prog w = .ok z w := by
  cases hi : Try.prog.info? T with
  | none => rw [hi] at h; cases h
  | some i =>
    rw [hi] at h
    simp only [Option.map_some, Option.some.injEq] at h
    simp only [zeroValue, typeInfo, program, Sem.run_bind, Sem.run, Sem.run_pure, Result.andThen_ok, hi, h]
theorem Try.ptrType : Try.prog.underlying 106 = some (.pointer (Try.prog.pointee 106)) := by kernel_rfl
theorem lookL_dyn_none {T : TypeId} {U : List Us} {k off : Nat} (hk : k < 1000000) : lookL (dynOwn T U) (.b k off) = none := by
  induction U with
  | nil => rfl
  | cons u U ih =>
    unfold dynOwn at ih ⊢
    rw [List.map_cons, Av.lookL_cons, if_neg (by simp; intro e; omega), ih]
theorem Try.zrPtr : (Try.prog.info? 106).map (·.zero) = some (some (.pointer none)) := by kernel_rfl
theorem loss_one {v : Value} {d : DataW Unit} {ps : List MemPlace} (h : plainElem Try.prog 3 v = some (d, ps)) : ∃ x : Int, v = .int .i64 x ∧ d = .lit (.int .i64 x) := by
  obtain ⟨x, rfl, h2, _⟩ := plainElem_int_inv Try.underlying3 h
  exact ⟨x, rfl, by cases h2; rfl⟩
theorem good_atts {r : Rec} (h : good r = true) : ∀ a ∈ r.al, 0 ≤ a.s ∧ a.s < 4096 ∧ 0 ≤ a.f ∧ a.f < 1048576 ∧ 0 ≤ a.cf ∧ a.cf < 32 ∧ 0 ≤ a.ct ∧ a.ct < 32 ∧ 0 ≤ a.cl ∧ a.cl < 256 ∧ 1 ≤ a.o ∧ a.o ≤ 4 := by
  simp only [good, Bool.and_eq_true, decide_eq_true_eq] at h
  intro a ha
  have := attsGo_all h.2.2.2.2.1 a ha
  simp only [attB, belowB, Bool.and_eq_true, decide_eq_true_eq] at this
  omega
end Go.Proofs.Ytkdigdnacggknaa
/- Owned rows of structs: what the record layer's text DecP holds of them. -/
namespace Go.Proofs.Ytkdigdnacggknaa
open Go.RowKit
open Rc
theorem Blk.new' {w : World} {g : Nat} (t : TypeId) (cs : List Value) (h : g = w.heap.size) : Blk (w.alloc (.cells cs.toArray t)) g t cs := by rw [h]; exact Blk.new w t cs
theorem own_kept {w w' : World} {base : Nat} {e : TypeId} {size : Nat} {v : Value} {n : Nat} {xs : List Value} (h : w.ownsRow base e size v n xs) (hk : ∀ g cs, v.ownBlock = some g → Blk w g e cs → Blk w' g e cs) : w'.ownsRow base e size v n xs := by
  refine ⟨h.1, ?_⟩
  rcases h.2 with h0 | ⟨g, cap, cur, hv, hg, hh, h1, h2, h3, h4⟩
  · exact .inl h0
  · refine .inr ⟨g, cap, cur, hv, hg, ?_, h1, h2, h3, h4⟩
    have := hk g cur.toList (by rw [hv]; rfl) (by unfold Blk; simpa using hh)
    unfold Blk at this
    simpa using this
theorem Blk.grown_ {w w' : World} {g : Nat} {t : TypeId} {cs : List Value} {row : Option Nat} (h : Blk w g t cs) (hg : w.grownBy w' row) (hne : some g ≠ row) : Blk w' g t cs := (hg.block g h.lt hne).trans h
theorem Blk.news {w : World} {g : Nat} {t : TypeId} {cs : List Value} (h : Blk w g t cs) : ∀ j u, cs[j]? = some u → w.cell? ((⟨g, 0, none⟩ : Addr).add j) = some u := fun j u hu => by
  have e : (⟨g, 0, none⟩ : Addr).add j = ⟨g, j, none⟩ := by
    unfold Addr.add
    split
    · rename_i h; subst h; rfl
    · simp
  rw [e]; exact (h.row j).trans hu
theorem ints_one {l : List Int} : ∀ u ∈ l.map (Value.int .i64), u.oneCell' = true := fun u hu => by
  obtain ⟨z, _, rfl⟩ := List.mem_map.1 hu
  rfl

theorem own_form {w : World} {base : Nat} {e : TypeId} {size : Nat} {v : Value} {n : Nat} {xs : List Value} (h : w.ownsRow base e size v n xs) : ∃ A c, v = .slice A n c := by
  rcases h.2 with ⟨rfl, h0⟩ | ⟨g, cap, cur, rfl, _⟩
  · exact ⟨none, 0, by rw [h0]⟩
  · exact ⟨_, _, rfl⟩
def flatA (l : List Rc.Att) : List Value := l.flatMap Rc.Att.row
theorem row_len_A (a : Rc.Att) : a.row.length = 8 := rfl
theorem own_liesA {w : World} {base : Nat} {v : Value} {l : List Att} (h : w.ownsRow base 66 8 v l.length (flatA l)) : ∃ A c, v = .slice A l.length c ∧ LiesA w w.heap.size A l := by
  obtain ⟨A, c, e, h1, _⟩ := own_lies (f := Att.row) row_len_A h
  exact ⟨A, c, e, h1⟩
theorem own_A {w : World} {base n c : Nat} {A : Option Addr} {l : List Att} (h : w.ownsRow base 66 8 (.slice A n c) l.length (flatA l)) : LiesA w w.heap.size A l := by
  obtain ⟨A', c', e, h1⟩ := own_liesA h
  injection e with e _ _
  subst e
  exact h1
end Go.Proofs.Ytkdigdnacggknaa
/- Walk: Attempts of package record. -/
namespace Go.Proofs.Ytkdigdnacggknaa
open Go.RowKit
open Rc
theorem Try.infoAtt : (Try.prog.info? 66).map (fun i => (i.zero, i.size, i.bytes)) = some (some (.agg #[.int .i64 0, .int .i64 0, .int .i64 0, .int .i64 0, .int .i64 0, .int .i64 0, .int .i64 0, .int .i64 0]), 8, 64) := by kernel_rfl
/-- The attempts of a frame. -/
def ofFrame (l : List Att) (flow frame : Int) : List Att := l.filter fun a => a.cl == flow && a.f == frame

theorem own_weak {w : World} {base base' : Nat} {e : TypeId} {size : Nat} {v : Value} {n : Nat} {xs : List Value} (h : w.ownsRow base e size v n xs) (hb : base' ≤ base) : w.ownsRow base' e size v n xs := by
  obtain ⟨h1, h2⟩ := h
  refine ⟨h1, ?_⟩
  rcases h2 with h2 | ⟨g, cap, cur, e1, e2, e3⟩
  · exact Or.inl h2
  · exact Or.inr ⟨g, cap, cur, e1, Nat.le_trans hb e2, e3⟩
theorem own_type {w : World} {base : Nat} {e t : TypeId} {size : Nat} {v : Value} {n : Nat} {xs cs : List Value} {g : Nat} (h : w.ownsRow base e size v n xs) (hg : some g = v.ownBlock) (hb : Blk w g t cs) : t = e := by
  obtain ⟨h1, h2⟩ := h
  rcases h2 with ⟨rfl, _⟩ | ⟨g', cap, cur, rfl, e2, e3, _⟩
  · cases hg
  · simp only [Value.ownBlock, Option.some.injEq] at hg
    subst hg
    unfold Blk at hb
    rw [e3] at hb
    injection hb with hb
    injection hb with _ hb
    exact hb.symm

set_option maxRecDepth 100000 in
set_option maxHeartbeats 8000000 in
theorem attempts2_any (r : Rec) (A D : Option Addr) (ca cd : Nat) (flow frame : Int) (w : World) (hA : LiesA w w.heap.size A r.al) (hla : r.al.length ≤ 1000000) :
    Calls Try.prog 30 #[.agg #[.int .i64 r.slots, .slice A r.al.length ca, .slice D r.dl.length cd], .int .i64 flow, .int .i64 frame] w fun e w' => Below w.heap.size w w' ∧ ∃ va, e = .returned va ∧ w'.ownsRow w.heap.size 66 8 va (ofFrame r.al flow frame).length (flatA (ofFrame r.al flow frame)) := by
  obtain ⟨slots, al, dl⟩ := r
  dsimp only at *
  obtain ⟨na, hna⟩ : ∃ n, n = al.length := ⟨_, rfl⟩
  obtain ⟨nd, hnd⟩ : ∃ n, n = dl.length := ⟨_, rfl⟩
  rw [← hna, ← hnd]
  rw [← hna] at hla
  have HA := Lib.hid hna
  clear hna hnd
  obtain ⟨F, hF⟩ : ∃ F, F = ofFrame al flow frame := ⟨_, rfl⟩
  rw [← hF]
  have HF := Lib.hid hF
  clear hF
  obtain ⟨i0, hi, hz0, hz1, hz2⟩ := info_parts Try.infoAtt
  go_enter Try.func30, Try.ntmps30
  go_wp2_with fail
  generalize hW0 : World.alloc _ _ = W0
  have bR : Blk W0 w.heap.size 28 [.int .i64 slots, .slice A na ca, .slice D nd cd] := by rw [← hW0]; exact Blk.new' _ [.int .i64 slots, .slice A na ca, .slice D nd cd] rfl
  have hb0 : Below w.heap.size w W0 := by rw [← hW0]; exact (Below.refl _ _).alloc (Nat.le_refl _) _
  clear hW0
  obtain ⟨N, hN⟩ : ∃ N, N = w.heap.size := ⟨_, rfl⟩
  rw [← hN] at bR hb0 ⊢
  have hA' : LiesA w N A al := by rw [hN]; exact hA
  have HN := Lib.hid hN
  clear hN hA
  go_loopw [7, 14] (fun s7 i wr => ∃ (k : Nat) (acc : List Att) (va : Value), va = s7 ∧ k ≤ na ∧ i = .int .i64 k ∧ acc.length ≤ k ∧ wr.ownsRow (N + 1) 66 8 va acc.length (flatA acc) ∧ Below N w wr ∧ N + 1 ≤ wr.heap.size ∧ Hid (F = acc ++ ofFrame (al.drop k) flow frame)) (fun _ i _ => na - (intOf i).toNat)
  case atStart => exact ⟨0, [], _, rfl, Nat.zero_le _, rfl, Nat.le_refl _, World.ownsRow_nil _ _ _ _, hb0, bR.lt, Lib.hid (by rw [HF.out]; simp)⟩
  case round =>
    obtain ⟨k, acc, va, rfl, hk, rfl, hal, hown, hb, hMw, hst⟩ := hrel
    by_cases hlt : k < na
    · obtain ⟨a, ha⟩ := get_of_lt (l := al) (k := k) (by rw [← HA.out]; exact hlt)
      obtain ⟨b, off, rfl, hbB, hcs⟩ := (hA'.below hb).at_ ha
      obtain ⟨c0, c1, c2, c3, c4, c5, c6, c7⟩ := hcs k a ha
      have hd := Lib.hid (drop_of_get ha)
      have hvl : ∀ g, va.ownBlock = some g → N + 1 ≤ g ∧ g < wr.heap.size := hown.lt
      have HV := Lib.hid hvl
      clear hcs ha hvl
      go_upto_region 5 with fail
      generalize hW1 : wr.alloc _ = W1
      have ba : Blk W1 wr.heap.size 66 [.int .i64 a.s, .int .i64 a.f, .int .i64 a.cs, .int .i64 a.co, .int .i64 a.cf, .int .i64 a.ct, .int .i64 a.cl, .int .i64 a.o] := by rw [← hW1]; exact Blk.new' _ [.int .i64 a.s, .int .i64 a.f, .int .i64 a.cs, .int .i64 a.co, .int .i64 a.cf, .int .i64 a.ct, .int .i64 a.cl, .int .i64 a.o] rfl
      have hb1 : Below N w W1 := by rw [← hW1]; exact hb.alloc (by omega) _
      have hsz : wr.heap.size + 1 ≤ W1.heap.size := by rw [← hW1]; simp
      have hown1 : W1.ownsRow (N + 1) 66 8 va acc.length (flatA acc) := by rw [← hW1]; exact hown.alloc _
      have ca := ba.row
      unfold Row at ca
      clear hW1 c0 c1 c2 c3 c4 c5 c6 c7 hown
      by_cases hm : a.cl = flow ∧ a.f = frame
      · obtain ⟨h1, h2⟩ := hm
        have e1 : (a.cl == flow) = true := by simp [h1]
        have e2 : (a.f == frame) = true := by simp [h2]
        have hst' : Hid (F = (acc ++ [a]) ++ ofFrame (al.drop (k + 1)) flow frame) := Lib.hid (by rw [hst.out, hd.out]; simp [ofFrame, h1, h2])
        have HO := Lib.hid hown1
        clear hown1 hst h1 h2
        go_wp2_with (at_builtin; refine wpList_append_own_at _ rfl (.tmp 29) (.tmp 31) 23 rfl (N + 1) 66 i0 (.agg #[.int .i64 0, .int .i64 0, .int .i64 0, .int .i64 0, .int .i64 0, .int .i64 0, .int .i64 0, .int .i64 0]) 8 64 Try.underlying23 hi hz0 hz1 hz2 rfl (by decide) va acc.length (flatA acc) rfl (HO.out.alloc _) ⟨W1.heap.size, 0, none⟩ 1 1 [.int .i64 a.s, .int .i64 a.f, .int .i64 a.cs, .int .i64 a.co, .int .i64 a.cf, .int .i64 a.ct, .int .i64 a.cl, .int .i64 a.o] rfl rfl ?e0 ?e1 ?e2 ?e3 ?e4 ?_)
        case e0 => exact (Blk.new' 66 [.int .i64 a.s, .int .i64 a.f, .int .i64 a.cs, .int .i64 a.co, .int .i64 a.cf, .int .i64 a.ct, .int .i64 a.cl, .int .i64 a.o] rfl).news
        case e1 => exact ints_one (l := [a.s, a.f, a.cs, a.co, a.cf, a.ct, a.cl, a.o])
        case e2 => unfold maxLen; omega
        case e3 => omega
        case e4 => simp; omega
        intro v3 w3 ho3 hg3 hnil3 hat3
        clear hnil3 hat3
        have hb3 : Below N w w3 := (hb1.alloc (by omega) _).grown hg3 (by simp; omega) (by intro g hg; have := HV.out g hg; omega)
        have hz3 : N + 1 ≤ w3.heap.size := by have := hg3.size; simp at this; omega
        have O3 : w3.ownsRow (N + 1) 66 8 v3 (acc ++ [a]).length (flatA (acc ++ [a])) := by simpa [flatA, Att.row] using ho3
        obtain ⟨A3, c3, hv3⟩ := own_form ho3
        clear ho3 hg3 HO
        subst hv3
        go_wp2_with fail
        go_roundw
        case rel => exact ⟨k + 1, acc ++ [a], _, rfl, by omega, by go_num, by simp; omega, O3, hb3, hz3, hst'⟩
        case measure => simp [intOf]; omega
      · have hst' : Hid (F = acc ++ ofFrame (al.drop (k + 1)) flow frame) := Lib.hid (by
          rw [hst.out, hd.out]
          have : (a.cl == flow && a.f == frame) = false := by
            rw [Bool.eq_false_iff]
            intro h
            simp at h
            exact hm h
          simp only [ofFrame, List.filter_cons, this, Bool.false_eq_true, if_false])
        clear hst
        by_cases h1 : a.cl = flow
        · have h2 : ¬ a.f = frame := fun h => hm ⟨h1, h⟩
          have e1 : (a.cl == flow) = true := by simp [h1]
          have e2 : (a.f == frame) = false := by simp [h2]
          go_wp2_with fail
          go_roundw
          case rel => exact ⟨k + 1, acc, _, rfl, by omega, by go_num, by omega, hown1, hb1, by omega, hst'⟩
          case measure => simp [intOf]; omega
        · have e1 : (a.cl == flow) = false := by simp [h1]
          go_wp2_with fail
          go_roundw
          case rel => exact ⟨k + 1, acc, _, rfl, by omega, by go_num, by omega, hown1, hb1, by omega, hst'⟩
          case measure => simp [intOf]; omega
    · have hst' : Hid (F = acc) := Lib.hid (by rw [hst.out, List.drop_of_length_le (by rw [← HA.out]; omega)]; simp [ofFrame])
      obtain ⟨A3, c3, hv3⟩ := own_form hown
      have HO := Lib.hid hown
      clear hst hown
      subst hv3
      go_wp2_with fail
      go_ret
      exact ⟨by rw [← HN.out]; exact hb, _, rfl, by rw [hst'.out, ← HN.out]; exact own_weak HO.out (by omega)⟩

end Go.Proofs.Ytkdigdnacggknaa
/- Walk: Losses of package record, with its closure. -/
namespace Go.Proofs.Ytkdigdnacggknaa
open Go.RowKit
open Rc

def flush (run : List Int) (out : List (List Int)) : List (List Int) := if run.length = 0 then out else out ++ [run]

/-- The runs of attempts of a link that are not acknowledged. -/
def lossGo (fr to_ : Int) : List Att → List Int → List (List Int) → List (List Int)
  | [], run, out => flush run out
  | a :: l, run, out => if ¬ a.cf = fr ∨ ¬ a.ct = to_ then lossGo fr to_ l run out else if a.o = 1 then lossGo fr to_ l [] (flush run out) else lossGo fr to_ l (run ++ [a.s]) out

def lossP (l : List Att) (flow frame fr to_ : Int) : List (List Int) := lossGo fr to_ (ofFrame l flow frame) [] []

/-- The values vs are slices that own the runs out, each in a block below R. -/
def Runs (w : World) (B R : Nat) (vs : List Value) (out : List (List Int)) : Prop :=
  vs.length = out.length ∧ ∀ (i : Nat) (v : Value) (l : List Int), vs[i]? = some v → out[i]? = some l → w.ownsRow B 3 1 v l.length (l.map (Value.int .i64)) ∧ ∀ g, v.ownBlock = some g → g < R

theorem Runs.kept {w w' : World} {B R R' : Nat} {vs : List Value} {out : List (List Int)} (h : Runs w B R vs out) (hR : R ≤ R') (hk : ∀ g cs, B ≤ g → g < R → Blk w g 3 cs → Blk w' g 3 cs) : Runs w' B R' vs out :=
  ⟨h.1, fun i v l hv hl => by
    obtain ⟨h1, h2⟩ := h.2 i v l hv hl
    exact ⟨own_kept h1 fun g cs hg hb => hk g cs (h1.lt g hg).1 (h2 g hg) hb, fun g hg => Nat.lt_of_lt_of_le (h2 g hg) hR⟩⟩
theorem Runs.nil (w : World) (B R : Nat) : Runs w B R [] [] := ⟨rfl, fun i v l hv => by simp at hv⟩
theorem Runs.snoc {w : World} {B R : Nat} {vs : List Value} {out : List (List Int)} {v : Value} {l : List Int} (h : Runs w B R vs out) (h1 : w.ownsRow B 3 1 v l.length (l.map (Value.int .i64))) (h2 : ∀ g, v.ownBlock = some g → g < R) : Runs w B R (vs ++ [v]) (out ++ [l]) := by
  refine ⟨by simp [h.1], fun i u m hu hm => ?_⟩
  by_cases hi : i < vs.length
  · rw [List.getElem?_append_left hi] at hu
    rw [List.getElem?_append_left (by rw [← h.1]; exact hi)] at hm
    exact h.2 i u m hu hm
  · rw [List.getElem?_append_right (by omega)] at hu
    rw [List.getElem?_append_right (by rw [← h.1]; omega)] at hm
    rw [← h.1] at hm
    cases hj : i - vs.length with
    | zero =>
      rw [hj] at hu hm
      simp at hu hm
      subst hu hm
      exact ⟨h1, h2⟩
    | succ j =>
      rw [hj] at hu
      simp at hu

theorem Try.infoInts : (Try.prog.info? 42).map (fun i => (i.zero, i.size, i.bytes)) = some (some (.slice none 0 0), 1, 24) := by kernel_rfl

def endVs (n : Nat) (vr : Value) (vs : List Value) : List Value := if n = 0 then vs else vs ++ [vr]

/-- The closure ends a run: gr is the run's variable, go_ the result's. -/
theorem end_any (gr go_ B n c : Nat) (A : Option Addr) (vo : Value) (vs : List Value) (w : World) (hr : Blk w gr 42 [.slice A n c]) (ho : Blk w go_ 40 [vo]) (hne : gr ≠ go_) (hgr : gr < B) (hgo : go_ < B) (hown : w.ownsRow B 42 1 vo vs.length vs) (hvs : vs.length ≤ 1000000) (hB : B ≤ w.heap.size) :
    Calls Try.prog 76 #[.pointer (some ⟨gr, 0, none⟩), .pointer (some ⟨go_, 0, none⟩)] w fun e w' => e = .returned (.tuple #[]) ∧ ∃ vo', Blk w' gr 42 [.slice none 0 0] ∧ Blk w' go_ 40 [vo'] ∧ w'.ownsRow B 42 1 vo' (endVs n (.slice A n c) vs).length (endVs n (.slice A n c) vs) ∧
      (∀ g t cs, g ≠ gr → g ≠ go_ → some g ≠ vo.ownBlock → Blk w g t cs → Blk w' g t cs) ∧ (∀ N, N ≤ gr → N ≤ go_ → Below N w w') ∧ w.heap.size ≤ w'.heap.size := by
  obtain ⟨i0, hi, hz0, hz1, hz2⟩ := info_parts Try.infoInts
  have cr := hr.row 0
  have fr := hr.frozen 0
  have co := ho.row 0
  have fo := ho.frozen 0
  obtain ⟨Ao, cao, hvo⟩ := own_form hown
  have hvl : ∀ g, vo.ownBlock = some g → B ≤ g ∧ g < w.heap.size := hown.lt
  have HV := Lib.hid hvl
  clear hvl
  simp only [List.getElem?_cons_zero] at cr co
  cases n with
  | zero =>
    clear hvo
    have HO := Lib.hid hown
    clear hown
    go_enter Try.func76, Try.ntmps76
    go_wp2_with fail
    go_end0
    refine ⟨rfl, vo, hr.set_ 0 _, ho.far (p := ⟨gr, 0, none⟩) (by dsimp only; omega) _, ?_, fun g t cs h1 h2 h3 h => h.far (p := ⟨gr, 0, none⟩) h1 _, fun N h1 h2 => (Below.refl _ _).setCell (p := ⟨gr, 0, none⟩) h1 _, by simp [World.setCell]⟩
    show World.ownsRow _ _ _ _ _ vs.length vs
    exact own_kept HO.out fun g cs hg h => h.far (p := ⟨gr, 0, none⟩) (by have := (HO.out.lt g hg).1; dsimp only; omega) _
  | succ n =>
    have hpos : decide ((0 : Int) < ((n + 1 : Nat) : Int)) = true := by simp
    have HO := Lib.hid hown
    clear hown hvo
    go_enter Try.func76, Try.ntmps76
    go_wp2_with (at_builtin; refine wpList_append_own_at _ rfl (.tmp 5) (.tmp 7) 40 rfl B 42 i0 (.slice none 0 0) 1 24 Try.underlying40 hi hz0 hz1 hz2 rfl (by decide) vo vs.length vs rfl (HO.out.alloc _) ⟨w.heap.size, 0, none⟩ 1 1 [.slice A (n + 1) c] rfl rfl ?e0 ?e1 ?e2 ?e3 ?e4 ?_)
    case e0 => exact (Blk.new' 42 [.slice A (n + 1) c] rfl).news
    case e1 => intro u hu; simp at hu; subst hu; rfl
    case e2 => unfold maxLen; omega
    case e3 => omega
    case e4 => simp; omega
    intro v3 w3 ho3 hg3 hnil3 hat3
    clear hnil3 hat3
    have hbk : ∀ g t cs, g < B → Blk w g t cs → Blk w3 g t cs := fun g t cs h1 h => (h.alloc _).grown_ hg3 (by intro e; have := HV.out g e.symm; omega)
    have o3 := hbk _ _ _ hgo ho
    have r3 := hbk _ _ _ hgr hr
    have co3 := o3.row 0
    have fo3 := o3.frozen 0
    have cr3 := r3.row 0
    have fr3 := r3.frozen 0
    simp only [List.getElem?_cons_zero] at cr3 co3
    have hne' : ¬ go_ = gr := fun h => hne h.symm
    obtain ⟨A3, c3, hv3⟩ := own_form ho3
    have HO3 := Lib.hid ho3
    have hsz := hg3.size
    have HG := Lib.hid hg3
    clear ho3 hg3 cr fr co fo
    subst hv3
    go_wp2_with fail
    go_end0
    refine ⟨rfl, _, (r3.far (p := ⟨go_, 0, none⟩) hne _).set_ 0 _, (o3.set_ 0 _).far (p := ⟨gr, 0, none⟩) hne' _, ?_, fun g t cs h1 h2 h3 h => (((h.alloc _).grown_ HG.out h3).far (p := ⟨go_, 0, none⟩) h2 _).far (p := ⟨gr, 0, none⟩) h1 _, fun N h1 h2 => ?_, ?_⟩
    · have : endVs (n + 1) (.slice A (n + 1) c) vs = vs ++ [.slice A (n + 1) c] := by simp [endVs]
      rw [this]
      have h := HO3.out
      refine own_kept (by simpa using h) fun g cs hg h' => ?_
      have := (h.lt g hg).1
      exact (h'.far (p := ⟨go_, 0, none⟩) (by dsimp only; omega) _).far (p := ⟨gr, 0, none⟩) (by dsimp only; omega) _
    · exact ((((Below.refl _ _).alloc (by omega) _).grown HG.out (by simp; omega) (by intro g hg; have := HV.out g hg; omega)).setCell (p := ⟨go_, 0, none⟩) h2 _).setCell (p := ⟨gr, 0, none⟩) h1 _
    · simp [World.setCell] at hsz ⊢
      omega

set_option maxRecDepth 100000 in
set_option maxHeartbeats 8000000 in
theorem losses_any (r : Rec) (A D : Option Addr) (ca cd : Nat) (flow frame fr to_ : Int) (w : World) (hA : LiesA w w.heap.size A r.al) (hla : r.al.length ≤ 1000000) :
    Calls Try.prog 51 #[.agg #[.int .i64 r.slots, .slice A r.al.length ca, .slice D r.dl.length cd], .int .i64 flow, .int .i64 frame, .int .i64 fr, .int .i64 to_] w fun e w' => Below w.heap.size w w' ∧ ∃ vo vs, e = .returned vo ∧ w'.ownsRow w.heap.size 42 1 vo vs.length vs ∧ Runs w' w.heap.size w'.heap.size vs (lossP r.al flow frame fr to_) := by
  have hcon := fun W (h : Below w.heap.size w W) => attempts2_any r A D ca cd flow frame W ((hA.below h).more h.size) hla
  obtain ⟨slots, al, dl⟩ := r
  dsimp only at *
  obtain ⟨F, hF⟩ : ∃ F, F = ofFrame al flow frame := ⟨_, rfl⟩
  have hFl : F.length ≤ 1000000 := by rw [hF]; exact Nat.le_trans (List.length_filter_le _ _) hla
  obtain ⟨na, hna⟩ : ∃ n, n = al.length := ⟨_, rfl⟩
  obtain ⟨nd, hnd⟩ : ∃ n, n = dl.length := ⟨_, rfl⟩
  unfold lossP
  rw [← hF, ← hna, ← hnd] at hcon
  rw [← hF, ← hna, ← hnd]
  have Con := Lib.hid hcon
  clear hF hcon hna hnd hA
  obtain ⟨T, hT⟩ : ∃ T, T = lossGo fr to_ F [] [] := ⟨_, rfl⟩
  rw [← hT]
  have HT := Lib.hid hT
  clear hT
  obtain ⟨n, hn⟩ : ∃ n, n = F.length := ⟨_, rfl⟩
  rw [← hn] at hFl
  have HL := Lib.hid hn
  clear hn
  obtain ⟨i0, hi, hz0, hz1, hz2⟩ := info_parts Try.infoInt
  go_enter Try.func51, Try.ntmps51
  go_wp2_with fail
  generalize hW0 : World.alloc _ _ = W0
  have bR : Blk W0 w.heap.size 28 [.int .i64 slots, .slice A na ca, .slice D nd cd] := by rw [← hW0]; exact ((Blk.new' _ [.int .i64 slots, .slice A na ca, .slice D nd cd] rfl).alloc _).alloc _
  have bo : Blk W0 (w.heap.size + 1) 40 [.slice none 0 0] := by rw [← hW0]; exact (Blk.new' _ [.slice none 0 0] (by simp)).alloc _
  have br : Blk W0 (w.heap.size + 1 + 1) 42 [.slice none 0 0] := by rw [← hW0]; exact Blk.new' _ [.slice none 0 0] (by simp)
  have hb0 : Below w.heap.size w W0 := by rw [← hW0]; exact (((Below.refl _ _).alloc (Nat.le_refl _) _).alloc (by simp) _).alloc (by simp; omega) _
  have hz : W0.heap.size = w.heap.size + 1 + 1 + 1 := by rw [← hW0]; simp
  clear hW0
  refine (Con.out W0 hb0).mono ?_
  rintro e w1 ⟨hb1, va, rfl, hva⟩
  rw [hz] at hb1 hva
  obtain ⟨N, hN⟩ : ∃ N, N = w.heap.size := ⟨_, rfl⟩
  rw [← hN] at bR bo br hb0 hb1 hva ⊢
  have HN := Lib.hid hN
  replace bo := bo.below hb1 (by omega)
  replace br := br.below hb1 (by omega)
  replace hb0 := hb0.trans (hb1.mono (by omega))
  have hM : N + 1 + 1 + 1 ≤ w1.heap.size := by have := hb1.size; omega
  have hva1 : ∀ g, va.ownBlock = some g → N + 1 + 1 + 1 ≤ g ∧ g < w1.heap.size := hva.lt
  clear hb1 bR hN hz
  obtain ⟨M, hMe⟩ : ∃ M, M = w1.heap.size := ⟨_, rfl⟩
  rw [← hMe] at hM hva1
  have HM := Lib.hid hMe
  have HV1 := Lib.hid hva1
  clear hMe hva1
  rw [← HL.out] at hva
  obtain ⟨A1, cA, hv1⟩ := own_form hva
  have HVA := Lib.hid hva
  clear hva
  subst hv1
  go_wp2_with fail
  obtain ⟨Rel, hRel⟩ : ∃ Rel : Nat → World → Prop, Rel = fun k wr => ∃ (R : Nat) (run : List Int) (out : List (List Int)) (vs : List Value) (vr vo : Value), run.length ≤ k ∧ out.length ≤ k ∧ M ≤ R ∧ R ≤ wr.heap.size ∧ Blk wr (N + 1) 40 [vo] ∧ Blk wr (N + 1 + 1) 42 [vr] ∧
      wr.ownsRow (N + 1 + 1 + 1) 66 8 (.slice A1 n cA) n (flatA F) ∧ wr.ownsRow M 42 1 vo vs.length vs ∧ wr.ownsRow R 3 1 vr run.length (run.map (Value.int .i64)) ∧ Runs wr M R vs out ∧ Below N w wr ∧ Hid (T = lossGo fr to_ (F.drop k) run out) := ⟨_, rfl⟩
  have HRel := Lib.hid hRel
  clear hRel
  have hst0 : Rel 0 w1 := by
    rw [HRel.out]
    exact ⟨M, [], [], [], _, _, Nat.le_refl _, Nat.le_refl _, Nat.le_refl _, by rw [HM.out]; exact Nat.le_refl _, bo, br, HVA.out, World.ownsRow_nil _ _ _ _, World.ownsRow_nil _ _ _ _, Runs.nil _ _ _, hb0, Lib.hid (by rw [HT.out]; simp)⟩
  go_loopw [22] (fun i wr => ∃ (k : Nat), k ≤ n ∧ i = .int .i64 k ∧ Rel k wr) (fun i _ => n - (intOf i).toNat)
  case atStart => exact ⟨0, Nat.zero_le _, rfl, hst0⟩
  case round =>
    clear bo br HVA hb0
    obtain ⟨k, hk, rfl, hrel⟩ := hrel
    rw [HRel.out] at hrel
    obtain ⟨R, run, out, vs, vr, vo, hrl, hol, hMR, hRw, bo, br, hoa, hoo, hor, hrs, hb, hst⟩ := hrel
    clear hst0
    have hvl : vs.length = out.length := hrs.1
    by_cases hlt : k < n
    · obtain ⟨a, ha⟩ := get_of_lt (l := F) (k := k) (by rw [← HL.out]; exact hlt)
      have hoa2 := hoa
      rw [HL.out] at hoa2
      obtain ⟨A2, cB, he2, hl2, _⟩ := own_lies (f := Att.row) row_len_A hoa2
      injection he2 with he2 he3 he4
      clear he3 he4
      subst he2
      have hl2' : LiesA wr wr.heap.size A1 F := hl2
      obtain ⟨b, off, rfl, hbB, hcs⟩ := hl2'.at_ ha
      obtain ⟨c0, c1, c2, c3, c4, c5, c6, c7⟩ := hcs k a ha
      have hd := Lib.hid (drop_of_get ha)
      have HVO : Hid (∀ g, vo.ownBlock = some g → M ≤ g ∧ g < wr.heap.size) := Lib.hid hoo.lt
      have HVR : Hid (∀ g, vr.ownBlock = some g → R ≤ g ∧ g < wr.heap.size) := Lib.hid hor.lt
      clear hcs ha hl2 hl2' hoa2
      go_upto_region 8 with fail
      generalize hW1 : wr.alloc _ = W1
      have ba : Blk W1 wr.heap.size 66 [.int .i64 a.s, .int .i64 a.f, .int .i64 a.cs, .int .i64 a.co, .int .i64 a.cf, .int .i64 a.ct, .int .i64 a.cl, .int .i64 a.o] := by rw [← hW1]; exact Blk.new' _ [.int .i64 a.s, .int .i64 a.f, .int .i64 a.cs, .int .i64 a.co, .int .i64 a.cf, .int .i64 a.ct, .int .i64 a.cl, .int .i64 a.o] rfl
      have hb1 : Below N w W1 := by rw [← hW1]; exact hb.alloc (by omega) _
      have hsz : wr.heap.size + 1 ≤ W1.heap.size := by rw [← hW1]; simp
      have hoa1 : W1.ownsRow (N + 1 + 1 + 1) 66 8 (.slice (some ⟨b, off, none⟩) n cA) n (flatA F) := by rw [← hW1]; exact hoa.alloc _
      have hoo1 : W1.ownsRow M 42 1 vo vs.length vs := by rw [← hW1]; exact hoo.alloc _
      have hor1 : W1.ownsRow R 3 1 vr run.length (run.map (Value.int .i64)) := by rw [← hW1]; exact hor.alloc _
      have hrs1 : Runs W1 M R vs out := hrs.kept (Nat.le_refl _) fun g cs _ _ h => by rw [← hW1]; exact h.alloc _
      have bo1 : Blk W1 (N + 1) 40 [vo] := by rw [← hW1]; exact bo.alloc _
      have br1 : Blk W1 (N + 1 + 1) 42 [vr] := by rw [← hW1]; exact br.alloc _
      have ca := ba.row
      unfold Row at ca
      have HO1 := Lib.hid hoo1
      have HR1 := Lib.hid hor1
      have HA1 := Lib.hid hoa1
      have HRS := Lib.hid hrs1
      clear hW1 c0 c1 c2 c3 c4 c5 c6 c7 hoa hoo hor hrs bo br hoo1 hor1 hoa1 hrs1
      by_cases hskip : ¬ a.cf = fr ∨ ¬ a.ct = to_
      · have hst' : Hid (T = lossGo fr to_ (F.drop (k + 1)) run out) := Lib.hid (by rw [hst.out, hd.out]; simp only [lossGo]; rw [if_pos hskip])
        clear hst
        have hnew : Rel (k + 1) W1 := by
          rw [HRel.out]
          exact ⟨R, run, out, vs, vr, vo, by omega, by omega, hMR, by omega, bo1, br1, HA1.out, HO1.out, HR1.out, HRS.out, hb1, hst'⟩
        by_cases h1 : a.cf = fr
        · have h2 : ¬ a.ct = to_ := by rcases hskip with h | h; exact absurd h1 h; exact h
          go_wp2_with fail
          go_roundw
          case rel => exact ⟨k + 1, by omega, by go_num, hnew⟩
          case measure => simp [intOf]; omega
        · go_wp2_with fail
          go_roundw
          case rel => exact ⟨k + 1, by omega, by go_num, hnew⟩
          case measure => simp [intOf]; omega
      · have hs1 : a.cf = fr := Classical.byContradiction fun h => hskip (Or.inl h)
        have hs2 : a.ct = to_ := Classical.byContradiction fun h => hskip (Or.inr h)
        by_cases hack : a.o = 1
        · have hst' : Hid (T = lossGo fr to_ (F.drop (k + 1)) [] (flush run out)) := Lib.hid (by rw [hst.out, hd.out]; simp only [lossGo]; rw [if_neg hskip, if_pos hack])
          clear hst
          obtain ⟨Ar, cr, hvr⟩ := own_form HR1.out
          subst hvr
          have hend := end_any (N + 1 + 1) (N + 1) M run.length cr Ar vo vs W1 br1 bo1 (by omega) (by omega) (by omega) HO1.out (by omega) (by omega)
          have HE := Lib.hid hend
          clear hend
          go_wp2_with fail
          refine HE.out.mono ?_
          clear HE
          rintro e w2 ⟨rfl, vo2, br2, bo2, hoo2, hk2, hb2, hz2⟩
          have hb2' : Below N w w2 := hb1.trans (hb2 N (by omega) (by omega))
          have rs2 : Runs w2 M W1.heap.size (endVs run.length (.slice Ar run.length cr) vs) (flush run out) := by
            have h1 : Runs w2 M W1.heap.size vs out := HRS.out.kept (by omega) fun g cs hg1 hg2 h => hk2 g _ cs (by omega) (by omega) (by intro e; have := own_type HO1.out e h; revert this; decide) h
            by_cases h0 : run.length = 0
            · simp only [endVs, flush, h0, if_true]
              exact h1
            · simp only [endVs, flush, h0, if_false]
              refine h1.snoc (own_weak (own_kept HR1.out fun g cs hg h => hk2 g _ cs ?_ ?_ (by intro e; have := own_type HO1.out e h; revert this; decide) h) hMR) fun g hg => (HR1.out.lt g hg).2
              · have := (HR1.out.lt g hg).1; omega
              · have := (HR1.out.lt g hg).1; omega
          have oa2 : w2.ownsRow (N + 1 + 1 + 1) 66 8 (.slice (some ⟨b, off, none⟩) n cA) n (flatA F) := own_kept HA1.out fun g cs hg h => hk2 g _ cs (by have := (HA1.out.lt g hg).1; omega) (by have := (HA1.out.lt g hg).1; omega) (by intro e; have := own_type HO1.out e h; revert this; decide) h
          have OA2 := Lib.hid oa2
          have RS2 := Lib.hid rs2
          have OO2 := Lib.hid hoo2
          have hfl : (flush run out).length ≤ k + 1 := by
            unfold flush
            split
            · omega
            · simp; omega
          have hnew : Rel (k + 1) w2 := by
            rw [HRel.out]
            exact ⟨W1.heap.size, [], flush run out, endVs run.length (.slice Ar run.length cr) vs, _, vo2, by simp, hfl, by omega, hz2, bo2, br2, OA2.out, OO2.out, World.ownsRow_nil _ _ _ _, RS2.out, hb2', hst'⟩
          clear hk2 hb2 oa2 rs2 hoo2 HRS HO1 HR1 HA1
          go_wp2_with fail
          go_roundw
          case rel => exact ⟨k + 1, by omega, by go_num, hnew⟩
          case measure => simp [intOf]; omega
        · have hst' : Hid (T = lossGo fr to_ (F.drop (k + 1)) (run ++ [a.s]) out) := Lib.hid (by rw [hst.out, hd.out]; simp only [lossGo]; rw [if_neg hskip, if_neg hack])
          clear hst
          have co1 := bo1.row 0
          have cr1 := br1.row 0
          have fr1 := br1.frozen 0
          simp only [List.getElem?_cons_zero] at co1 cr1
          go_wp2_with (at_builtin; refine wpList_append_own_at _ rfl (.tmp 26) (.tmp 29) 42 rfl R 3 i0 (.int .i64 0) 1 8 Try.underlying42 hi hz0 hz1 hz2 rfl (by decide) vr run.length (run.map (Value.int .i64)) rfl (HR1.out.alloc _) ⟨W1.heap.size, 0, none⟩ 1 1 [.int .i64 a.s] rfl rfl ?e0 ?e1 ?e2 ?e3 ?e4 ?_)
          case e0 => exact (Blk.new' 3 [.int .i64 a.s] rfl).news
          case e1 => exact ints_one (l := [a.s])
          case e2 => unfold maxLen; omega
          case e3 => omega
          case e4 => simp; omega
          intro v3 w3 ho3 hg3 hnil3 hat3
          clear hnil3 hat3
          have hkp : ∀ g t cs, g < R ∨ t ≠ 3 → Blk W1 g t cs → Blk w3 g t cs := fun g t cs h1 h => (h.alloc _).grown_ hg3 (by
            intro e
            rcases h1 with h1 | h1
            · have := HVR.out g e.symm; omega
            · exact h1 (own_type HR1.out e h))
          have bo3 := hkp _ _ _ (Or.inl (by omega)) bo1
          have br3 := hkp _ _ _ (Or.inl (by omega)) br1
          have oa3 := own_kept HA1.out fun g cs _ h => hkp g _ cs (Or.inr (by decide)) h
          have oo3 := own_kept HO1.out fun g cs _ h => hkp g _ cs (Or.inr (by decide)) h
          have rs3 := HRS.out.kept (Nat.le_refl _) fun g cs _ h1 h => hkp g _ cs (Or.inl h1) h
          have hb3 : Below N w w3 := (hb1.alloc (by omega) _).grown hg3 (by simp; omega) (by intro g hg; have := HVR.out g hg; omega)
          have hz3 : R ≤ w3.heap.size := by have := hg3.size; simp at this; omega
          have cr3 := br3.row 0
          have fr3 := br3.frozen 0
          simp only [List.getElem?_cons_zero] at cr3
          obtain ⟨A3, c3, hv3⟩ := own_form ho3
          have O4 : (w3.setCell ⟨N + 1 + 1, 0, none⟩ v3).ownsRow R 3 1 v3 (run ++ [a.s]).length ((run ++ [a.s]).map (Value.int .i64)) := own_kept (w := w3) (by simpa using ho3) fun g cs hg h => h.far (p := ⟨N + 1 + 1, 0, none⟩) (by have := (ho3.lt g hg).1; dsimp only; omega) _
          have OA4 : (w3.setCell ⟨N + 1 + 1, 0, none⟩ v3).ownsRow _ _ _ _ _ _ := own_kept oa3 fun g cs hg h => h.far (p := ⟨N + 1 + 1, 0, none⟩) (by have := (oa3.lt g hg).1; dsimp only; omega) _
          have OO4 : (w3.setCell ⟨N + 1 + 1, 0, none⟩ v3).ownsRow _ _ _ _ _ _ := own_kept oo3 fun g cs hg h => h.far (p := ⟨N + 1 + 1, 0, none⟩) (by have := (oo3.lt g hg).1; dsimp only; omega) _
          have RS4 : Runs (w3.setCell ⟨N + 1 + 1, 0, none⟩ v3) _ _ _ _ := rs3.kept (Nat.le_refl _) fun g cs hg _ h => h.far (p := ⟨N + 1 + 1, 0, none⟩) (by dsimp only; omega) _
          have BR4 := br3.set_ 0 v3
          have BO4 := bo3.far (p := ⟨N + 1 + 1, 0, none⟩) (by dsimp only; omega) v3
          have hb4 : Below N w (w3.setCell ⟨N + 1 + 1, 0, none⟩ v3) := hb3.setCell (p := ⟨N + 1 + 1, 0, none⟩) (by dsimp only; omega) _
          have hz4 : R ≤ (w3.setCell ⟨N + 1 + 1, 0, none⟩ v3).heap.size := by simp [World.setCell]; omega
          have h4 := Lib.hid (And.intro O4 (And.intro OA4 (And.intro OO4 RS4)))
          clear O4 OA4 OO4 RS4 oa3 oo3 rs3 ho3 hg3 hkp HRS HO1 HR1 HA1 bo1 br1 co1 cr1 fr1
          have hnew : Rel (k + 1) (w3.setCell ⟨N + 1 + 1, 0, none⟩ v3) := by
            rw [HRel.out]
            exact ⟨R, run ++ [a.s], out, vs, _, vo, by simp; omega, by omega, hMR, hz4, BO4, BR4, h4.out.2.1, h4.out.2.2.1, h4.out.1, h4.out.2.2.2, hb4, hst'⟩
          subst hv3
          go_wp2_with fail
          go_roundw
          case rel => exact ⟨k + 1, by omega, by go_num, hnew⟩
          case measure => simp [intOf]; omega
    · have hst' : Hid (T = flush run out) := Lib.hid (by rw [hst.out, List.drop_of_length_le (by rw [← HL.out]; omega)]; rfl)
      clear hst
      obtain ⟨Ar, cr, hvr⟩ := own_form hor
      have HR1 := Lib.hid hor
      have HRS := Lib.hid hrs
      have HO1 := Lib.hid hoo
      subst hvr
      have hend := end_any (N + 1 + 1) (N + 1) M run.length cr Ar vo vs wr br bo (by omega) (by omega) (by omega) HO1.out (by omega) (by omega)
      have HE := Lib.hid hend
      clear hend hor hrs hoo hoa
      go_wp2_with fail
      refine HE.out.mono ?_
      clear HE
      rintro e w2 ⟨rfl, vo2, br2, bo2, hoo2, hk2, hb2, hz2⟩
      have hb2' : Below N w w2 := hb.trans (hb2 N (by omega) (by omega))
      have rs2 : Runs w2 M w2.heap.size (endVs run.length (.slice Ar run.length cr) vs) (flush run out) := by
        have h1 : Runs w2 M w2.heap.size vs out := HRS.out.kept (by omega) fun g cs hg1 hg2 h => hk2 g _ cs (by omega) (by omega) (by intro e; have := own_type HO1.out e h; revert this; decide) h
        by_cases h0 : run.length = 0
        · simp only [endVs, flush, h0, if_true]
          exact h1
        · simp only [endVs, flush, h0, if_false]
          refine h1.snoc (own_weak (own_kept HR1.out fun g cs hg h => hk2 g _ cs ?_ ?_ (by intro e; have := own_type HO1.out e h; revert this; decide) h) hMR) fun g hg => (by have := (HR1.out.lt g hg).2; omega)
          · have := (HR1.out.lt g hg).1; omega
          · have := (HR1.out.lt g hg).1; omega
      have co2 := bo2.row 0
      simp only [List.getElem?_cons_zero] at co2
      obtain ⟨A3, c3, hv3⟩ := own_form hoo2
      have fin := Lib.hid (And.intro hoo2 rs2)
      clear rs2 hoo2 hk2 HR1 HO1 HRS
      subst hv3
      go_wp2_with fail
      go_ret
      refine ⟨by rw [← HN.out]; exact hb2', _, _, rfl, own_weak fin.out.1 (by rw [← HN.out]; omega), ?_⟩
      rw [hst'.out]
      obtain ⟨r1, r2⟩ := fin.out.2
      exact ⟨r1, fun i v l h1 h2 => ⟨own_weak (r2 i v l h1 h2).1 (by rw [← HN.out]; omega), (r2 i v l h1 h2).2⟩⟩

end Go.Proofs.Ytkdigdnacggknaa
