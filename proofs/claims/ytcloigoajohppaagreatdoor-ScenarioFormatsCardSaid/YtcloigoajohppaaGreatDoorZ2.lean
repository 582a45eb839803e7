import Derived.Maps.OwnOps
import Derived.Maps.Views
import Derived.Maps.Range
import Derived.Maps.RangeRun
import Derived.WideMake
import Derived.Lib.LaidTab
import Derived.Lib.Builder
import Derived.Lib.AppendStr
import Derived.Lib.BufferWrite
import Derived.Lib.BufferOwn
import Derived.Shelf.LaysM
import Derived.Shelf.Strconv.Itoa3
import Derived.Laws.Pointers
import Derived.Lib.ItoaLen
import Derived.Shelf.Abstract
import Derived.Lib.UnsafeStr
import Derived.Laws.Externs
import Derived.WalkKit
import Derived.RegionTactic
import Derived.Lib.ItoaMem
import Derived.Lib.AtoiTie
import Derived.Lib.SplitLaws
import Derived.Lib.SlTrimSet
import Derived.Lib.CutLaws
import Derived.Test.YtcloigoajohppaaGreatDoorZ1
import Derived.Test.YtcloigoajohppaaGreatDoorProg
set_option linter.unusedVariables false
set_option linter.unusedSimpArgs false
/- Abstract states: what else a frame holds: how it changes; operations by hand. Generic. -/
namespace Go.Proofs.YtcloigoajohppaaGreatDoor
open Go.RowKit
namespace Av

/-- From w to w1 only blocks of E0 have changed, and new ones have come; E holds there, of E0's blocks and new ones. -/
structure Turn (E0 : Ext) (w w1 : World) (E : Ext) : Prop where
  os : w1.os = w.os
  tape : w1.tape = w.tape
  output : w1.output = w.output
  size : w.heap.size ≤ w1.heap.size
  block : ∀ k, k < w.heap.size → ¬ E0.foot k → w1.heap[k]? = w.heap[k]?
  holds : E.holds w1
  foot : ∀ b, E.foot b → E0.foot b ∨ (w.heap.size ≤ b ∧ b < w1.heap.size)
  froz : ∀ b, E.froz b → E0.foot b ∨ E0.froz b ∨ (w.heap.size ≤ b ∧ b < w1.heap.size)
  laid : ∀ w0, E0.laid w0 → E.laid w0 := by intros; repeat' (first | assumption | trivial | constructor)
  reads : ∀ R, E0.reads R → E.reads R := by intros; repeat' (first | assumption | trivial | constructor)
  veil : ∀ p, E.veil p → E0.veil p ∨ E0.foot p.block ∨ w.heap.size ≤ p.block := by intro p h; first | exact False.elim h | exact Or.inl h | (rcases h with h | h <;> first | exact False.elim h | exact Or.inl (Or.inl h) | exact Or.inl (Or.inr h))
theorem Turn.same {E0 E : Ext} {w : World} (h : E.holds w) (hf : ∀ b, E.foot b → E0.foot b) (hz : ∀ b, E.froz b → E0.foot b ∨ E0.froz b) (hl : ∀ w0, E0.laid w0 → E.laid w0 := by intros; repeat' (first | assumption | trivial | constructor)) (hrd : ∀ R, E0.reads R → E.reads R := by intros; repeat' (first | assumption | trivial | constructor)) (hv : ∀ p, E.veil p → E0.veil p ∨ E0.foot p.block ∨ w.heap.size ≤ p.block := by intro p h; first | exact False.elim h | exact Or.inl h | (rcases h with h | h <;> first | exact False.elim h | exact Or.inl (Or.inl h) | exact Or.inl (Or.inr h))) : Turn E0 w w E := ⟨rfl, rfl, rfl, Nat.le_refl _, fun _ _ _ => rfl, h, fun b hb => .inl (hf b hb), fun b hb => (hz b hb).elim .inl (fun h => .inr (.inl h)), hl, hrd, hv⟩
theorem Turn.below {E0 E : Ext} {w w1 : World} (hb : Below w.heap.size w w1) (h : E.holds w1) (hf : ∀ b, E.foot b → E0.foot b ∨ (w.heap.size ≤ b ∧ b < w1.heap.size)) (hz : ∀ b, E.froz b → E0.foot b ∨ E0.froz b ∨ (w.heap.size ≤ b ∧ b < w1.heap.size)) (hl : ∀ w0, E0.laid w0 → E.laid w0 := by intros; repeat' (first | assumption | trivial | constructor)) (hrd : ∀ R, E0.reads R → E.reads R := by intros; repeat' (first | assumption | trivial | constructor)) (hv : ∀ p, E.veil p → E0.veil p ∨ E0.foot p.block ∨ w.heap.size ≤ p.block := by intro p h; first | exact False.elim h | exact Or.inl h | (rcases h with h | h <;> first | exact False.elim h | exact Or.inl (Or.inl h) | exact Or.inl (Or.inr h))) : Turn E0 w w1 E := ⟨hb.os, hb.tape, hb.output, hb.size, fun k hk _ => hb.block k hk, h, hf, hz, hl, hrd, hv⟩
section
variable {P : Program} {F : Fr} {σ : St} {γ : Gh} {a : Act} {w w1 : World} {E : Ext}
theorem Rel.turn_le (h : Rel F σ γ a w) (ht : Turn σ.ext w w1 E) : ∀ p v, rdr F.R0 F.w0.heap.size σ γ w p = some v → rdr F.R0 F.w0.heap.size { σ with ext := E } γ w1 p = some v := by
  refine rdr_le fun p v hB hm hc => ?_
  have hlt := Rel.cell_lt hc
  have hne : ¬ σ.ext.foot p.block := fun hx => hm (.inr (.inr (.inl hx)))
  have hnv : ¬ σ.ext.veil p := fun hx => hm (.inr (.inr (.inr hx)))
  refine ⟨fun hm' => ?_, (World.cell?_of_block (w := w) (ht.block p.block hlt hne)).trans hc⟩
  rcases hm' with hm' | ⟨L, e, sz, rows, h1, h2, h3, h4⟩ | hx
  · exact hm (.inl hm')
  · exact hm (.inr (.inl ⟨L, e, sz, rows, h1, by cases L <;> exact h2, h3, h4⟩))
  · rcases hx with hx | hx
    · rcases ht.foot _ hx with h1 | h1
      · exact hne h1
      · omega
    · rcases ht.veil _ hx with h1 | h1 | h1
      · exact hnv h1
      · exact hne h1
      · omega
/-- What else the frame holds has changed. -/
theorem Rel.turn (h : Rel F σ γ a w) (ht : Turn σ.ext w w1 E) : Rel F { σ with ext := E } γ a w1 := by
  have hle := h.turn_le ht
  have hboxb : ∀ k, (look σ.box k).isSome → w1.heap[γ.bx k]? = w.heap[γ.bx k]? := fun k hk => ht.block _ (h.box_lt hk).1 (fun hx => (h.extf _ (.inl hx)).2.2.1 k hk rfl)
  have hrowb : ∀ L g, (lookL σ.own L).isSome → γ.rw L = some g → w1.heap[g]? = w.heap[g]? := fun L g hL hg => ht.block _ (h.row_lt hL hg).1 (fun hx => (h.extf _ (.inl hx)).2.2.2 L hL hg)
  refine ⟨h.defers, h.size, h.below.trans ⟨ht.os, ht.tape, ht.output, ht.size, fun i hi => ht.block i (Nat.lt_of_lt_of_le hi h.base) (fun hx => by have := (h.extf _ (.inl hx)).1; omega)⟩, h.r0, fun t x hx => ?_, fun k cs hk => ?_, h.boxinj, fun L e sz hL => ?_, h.rowinj, h.rowbox, ht.holds, fun b hb => ?_, h.small, h.dyn, ht.laid _ h.laid, ht.reads _ (σ.ext.rmono hle h.extr)⟩
  · obtain ⟨h1, h2⟩ := h.slots t x hx
    exact ⟨h1.mono hle (fun _ _ => rfl), h2⟩
  · obtain ⟨us, ty, h1, h2, h3⟩ := h.boxes k cs hk
    exact ⟨us, ty, (hboxb k (by rw [show look σ.box k = _ from hk]; rfl)).trans h1, h2, h3.mono hle⟩
  · obtain ⟨rows, v, h1, h2, h3⟩ := h.owns L e sz hL
    have hs : (lookL σ.own L).isSome := by rw [show lookL σ.own L = _ from hL]; rfl
    refine ⟨rows, v, by cases L <;> exact h1, ?_, h3.keep fun g hg => hrowb L g hs hg⟩
    cases L with
    | s t => exact h2
    | b k off =>
      have hk : (look σ.box k).isSome := by
        cases hq : look σ.box k with
        | none => simp [St.avAt, hq] at h1
        | some _ => rfl
      exact (World.cell?_of_block (w := w) (a := ⟨γ.bx k, off, none⟩) (hboxb k hk)).trans h2
  · have hb' : (σ.ext.foot b ∨ σ.ext.froz b) ∨ (w.heap.size ≤ b ∧ b < w1.heap.size) := by
      rcases hb with hb | hb
      · exact (ht.foot b hb).elim (fun h => .inl (.inl h)) .inr
      · exact (ht.froz b hb).elim (fun h => .inl (.inl h)) (fun h => h.elim (fun h => .inl (.inr h)) .inr)
    rcases hb' with h1 | ⟨h1, h2⟩
    · obtain ⟨h3, h4, h5, h6⟩ := h.extf b h1
      exact ⟨h3, Nat.lt_of_lt_of_le h4 ht.size, h5, h6⟩
    · have := h.base
      refine ⟨by omega, h2, fun k hk e => ?_, fun L hL e => ?_⟩
      · have := (h.box_lt hk).1; omega
      · have := (h.row_lt hL e).1; omega
/-- An operation by hand that yields a value. -/
theorem hand_value {n : Nat} {o : Oper} {d : Nat} {K : St → Prop} (hd : o.dst = some d) (hdn : d < n)
    (h : ∀ (F : Fr) (γ : Gh) (a : Act) (w : World), F.n = n → Rel F σ γ a w → ∃ x v w1 E, (execOp a.eval o).run P w = .ok (.value v) w1 ∧ Turn σ.ext w w1 E ∧ RepA (rdr F.R0 F.w0.heap.size { σ with ext := E } γ w1) γ.bx x v ∧ (∀ k ∈ x.refs, (look σ.box k).isSome) ∧ K (({ σ with ext := E } : St).put d x)) : Hand P n σ o K := by
  intro F γ a w hF hr Q
  obtain ⟨x, v, w1, E, hrun, ht, hx, href, hK⟩ := h F γ a w hF hr
  unfold Oper.wp
  rw [hrun]
  show ∃ σ' γ', K σ' ∧ Rel F σ' γ' (a.put o.dst v) w1
  rw [hd]
  exact ⟨_, γ, hK, (hr.turn ht).put (by rw [hF]; exact hdn) hx href⟩
/-- An operation by hand that yields none. -/
theorem hand_skip {n : Nat} {o : Oper} {K : St → Prop} (hd : o.dst = none)
    (h : ∀ (F : Fr) (γ : Gh) (a : Act) (w : World), F.n = n → Rel F σ γ a w → ∃ w1 E, (execOp a.eval o).run P w = .ok .skip w1 ∧ Turn σ.ext w w1 E ∧ K { σ with ext := E }) : Hand P n σ o K := by
  intro F γ a w hF hr Q
  obtain ⟨w1, E, hrun, ht, hK⟩ := h F γ a w hF hr
  unfold Oper.wp
  rw [hrun]
  show ∃ σ' γ', K σ' ∧ Rel F σ' γ' (a.put o.dst undef) w1
  rw [hd]
  exact ⟨_, γ, hK, hr.turn ht⟩
/-- A slot's value. -/
theorem Rel.val (h : Rel F σ γ a w) {t : Nat} {v : Value} (ht : look σ.slot t = some (.v v)) : a.tmps.getD t undef = v := (h.slots t _ ht).1
theorem Rel.agg (h : Rel F σ γ a w) {t : Nat} {xs : List PV} (ht : look σ.slot t = some (.agg xs)) : ∃ us, a.tmps.getD t undef = .agg us.toArray ∧ RepL (rdr F.R0 F.w0.heap.size σ γ w) xs us := (h.slots t _ ht).1
theorem rep_ints {R : Reader} : ∀ {xs : List Value} {us : List Value}, RepL R (xs.map PV.v) us → us = xs
  | [], _, h => by cases h; rfl
  | x :: xs, _, h => by
    cases h with
    | cons h1 h2 =>
      cases h1
      rw [rep_ints h2]
end
end Av
end Go.Proofs.YtcloigoajohppaaGreatDoor
/- Maps that a call makes, by what they hold at each key. Generic. -/
namespace Go.Proofs.YtcloigoajohppaaGreatDoor
open Go.RowKit Go.Maps
open Go.Maps (Keyed)
namespace Av

abbrev MReader := Value → Option (DataW Unit × List MemPlace)
/-- Block b is a map of at most n entries; at a key it holds what reads as G says. -/
def MapIs (w : World) (P : Program) (k : TypeId) (R : MReader) (b n : Nat) (G : Value → Option (DataW Unit)) : Prop :=
  ∃ D, w.ownsMap P k R b n D ∧ IsMap D ∧ ∀ key kl, keyOf P k key = some kl → match G key with | some d => ∀ z, D.atKey kl z = d | none => ∀ z, D.atKey kl z = z
section
variable {P : Program} {k : TypeId} {R : MReader} {b n : Nat} {G : Value → Option (DataW Unit)} {w w' : World}
theorem MapIs.made (w : World) : MapIs (w.alloc (.map #[] 0)) P k R w.heap.size 0 (fun _ => none) :=
  ⟨.map [], World.ownsMap_made w _ _ _, isMap_empty, fun _ _ _ _ => by simp [DataW.atKey]⟩
theorem MapIs.stable (h : MapIs w P k R b n G) (hb : w'.heap[b]? = w.heap[b]?) : MapIs w' P k R b n G := by
  obtain ⟨D, ⟨es, clock, h1, h2⟩, h3⟩ := h
  exact ⟨D, ⟨es, clock, hb.trans h1, h2⟩, h3⟩
theorem MapIs.lt (h : MapIs w P k R b n G) : b < w.heap.size := by
  obtain ⟨D, h1, _⟩ := h
  exact h1.lt
theorem MapIs.mono (h : MapIs w P k R b n G) {n' : Nat} (hn : n ≤ n') : MapIs w P k R b n' G := by
  obtain ⟨D, h1, h2⟩ := h
  exact ⟨D, h1.mono hn, h2⟩
theorem MapIs.look (h : MapIs w P k R b n G) (c : Bool) (K : Keyed P k) {t e : TypeId} (ht : P.underlying t = some (.map k e)) {z : Value} (hz : (zeroValue e).run P w = .ok z w) {key : Value} {kl : Lit} (hkey : keyOf P k key = some kl) :
    (G key = none ∧ (Instr.lookup t (.map (some b)) key c).run P w = .ok (if c then .tuple #[z, .bool false] else z) w) ∨
    ∃ v d ps, G key = some d ∧ R v = some (d, ps) ∧ (Instr.lookup t (.map (some b)) key c).run P w = .ok (if c then .tuple #[v, .bool true] else v) w := by
  obtain ⟨D, ⟨es, clock, hb, F, _, rfl⟩, _, h3⟩ := h
  have h4 := h3 key kl hkey
  rcases fit_look c K ht hz hb F hkey with ⟨hrun, _, hat⟩ | ⟨e0, y, _, _, hrun, hRv, hat, _⟩
  · refine .inl ⟨?_, hrun⟩
    cases hG : G key with
    | none => rfl
    | some d =>
      rw [hG] at h4
      have h5 := (hat (.lit (.bool true))).symm.trans (h4 _)
      have h6 := (hat (.lit (.bool false))).symm.trans (h4 _)
      rw [← h6] at h5
      cases h5
  · refine .inr ?_
    cases hG : G key with
    | none =>
      rw [hG] at h4
      have h5 := (hat (.lit (.bool true))).symm.trans (h4 _)
      have h6 := (hat (.lit (.bool false))).symm.trans (h4 _)
      rw [h5] at h6
      cases h6
    | some d =>
      rw [hG] at h4
      have h5 : y.1 = d := (hat .nil).symm.trans (h4 _)
      exact ⟨e0.val, d, y.2, rfl, by rw [hRv, ← h5], hrun⟩
open Classical in
theorem MapIs.put (h : MapIs w P k R b n G) (K : Keyed P k) {t e : TypeId} (ht : P.underlying t = some (.map k e)) (hn : n < maxLen) {key val : Value} {kl : Lit} {d : DataW Unit} {ps : List MemPlace} (hkey : keyOf P k key = some kl) (hv : R val = some (d, ps)) :
    ∃ w', (Instr.mapUpdate t (.map (some b)) key val).run P w = .ok () w' ∧ MapIs w' P k R b (n + 1) (fun x => if x = key then some d else G x) ∧ w.grownBy w' (some b) := by
  obtain ⟨D, h1, h2, h3⟩ := h
  obtain ⟨w', hrun, r1, r2⟩ := h1.update K ht hn hkey hv
  refine ⟨w', hrun, ⟨_, r1, h2.put _ _, fun x xl hx => ?_⟩, r2⟩
  show match (if x = key then some d else G x) with | some d => ∀ z, _ = d | none => ∀ z, _ = z
  by_cases e : x = key
  · subst e
    have : xl = kl := by rw [hx] at hkey; exact Option.some.inj hkey
    subst this
    rw [if_pos rfl]
    exact fun z => atKey_put_same h2 (K.key hkey) _ _
  · rw [if_neg e]
    have hne : xl ≠ kl := fun e' => e (K.inj hx (by rw [e']; exact hkey))
    have h4 := h3 x xl hx
    cases hG : G x with
    | none =>
      rw [hG] at h4
      exact fun z => (atKey_put_other hne _ _).trans (h4 z)
    | some d' =>
      rw [hG] at h4
      exact fun z => (atKey_put_other hne _ _).trans (h4 z)
end
end Av
end Go.Proofs.YtcloigoajohppaaGreatDoor
/- Ranges over maps that a call makes. Generic. -/
namespace Go.Proofs.YtcloigoajohppaaGreatDoor
open Go.RowKit Go.Maps
open Go.Maps (Keyed)
namespace Av

/-- Block r is an iterator over the map b; at the keys of S there are entries to come. -/
def RangeIs (w : World) (P : Program) (k : TypeId) (R : MReader) (b r n : Nat) (G : Value → Option (DataW Unit)) (S : Value → Prop) (cnt : Nat) : Prop :=
  ∃ D left, w.ranges P k R b r n D left cnt ∧ IsMap D ∧ (∀ key kl, keyOf P k key = some kl → match G key with | some d => ∀ z, D.atKey kl z = d | none => ∀ z, D.atKey kl z = z) ∧ ∀ key kl, keyOf P k key = some kl → (left kl = true ↔ S key)
section
variable {P : Program} {k : TypeId} {R : MReader} {b r n cnt : Nat} {G : Value → Option (DataW Unit)} {S : Value → Prop} {w w' : World}
theorem RangeIs.stable (h : RangeIs w P k R b r n G S cnt) (hb : w'.heap[b]? = w.heap[b]?) (hr : w'.heap[r]? = w.heap[r]?) : RangeIs w' P k R b r n G S cnt := by
  obtain ⟨D, left, ⟨es, clock, since, seen, c0, h1, h2, h3, h4, h5, h6⟩, h7⟩ := h
  exact ⟨D, left, ⟨es, clock, since, seen, c0, hb.trans h1, h2, h3, h4, hr.trans h5, h6⟩, h7⟩
theorem RangeIs.lt (h : RangeIs w P k R b r n G S cnt) : b < w.heap.size ∧ r < w.heap.size ∧ r ≠ b := by
  obtain ⟨D, left, h1, _⟩ := h
  exact ⟨h1.owns.lt, h1.lt, h1.ne⟩
theorem has_of_atKey {D : DataW Unit} {kl : Lit} {o : Option (DataW Unit)} (h : match o with | some d => ∀ z, D.atKey kl z = d | none => ∀ z, D.atKey kl z = z) : has D kl = true ↔ o.isSome = true := by
  cases o with
  | none => rw [has_false_of_atKey h]; simp
  | some d => rw [has_true_of_atKey h]; simp
theorem MapIs.range (h : MapIs w P k R b n G) (K : Keyed P k) {t e : TypeId} (ht : P.underlying t = some (.map k e)) :
    ∃ w' cnt, (Instr.range t (.map (some b))).run P w = .ok (.pointer (some ⟨w.heap.size, 0, none⟩)) w' ∧ RangeIs w' P k R b w.heap.size n G (fun key => (G key).isSome = true) cnt ∧ w.grownBy w' none ∧ w'.heap.size = w.heap.size + 1 := by
  obtain ⟨D, h1, h2, h3⟩ := h
  obtain ⟨w', hrun, r1, r2, r3⟩ := h1.range K ht
  exact ⟨w', _, hrun, ⟨D, _, r1, h2, h3, fun key kl hkey => has_of_atKey (h3 key kl hkey)⟩, r2, r3⟩
theorem RangeIs.next (h : RangeIs w P k R b r n G S cnt) (K : Keyed P k) (ty : TypeId) :
    ((∀ key kl, keyOf P k key = some kl → ¬ S key) ∧ (Instr.next (.pointer (some ⟨r, 0, none⟩)) false ty).run P w = .ok (.tuple #[.bool false]) w) ∨
    ∃ key v kl d ps w' cnt', keyOf P k key = some kl ∧ S key ∧ R v = some (d, ps) ∧ G key = some d ∧ (Instr.next (.pointer (some ⟨r, 0, none⟩)) false ty).run P w = .ok (.tuple #[.bool true, key, v]) w' ∧
      RangeIs w' P k R b r n G (fun x => S x ∧ x ≠ key) cnt' ∧ cnt' < cnt ∧ w.grownBy w' (some r) ∧ w'.heap.size = w.heap.size ∧ (Instr.entry (.pointer (some ⟨r, 0, none⟩))).run P w' = .ok (.tuple #[key, v]) w' := by
  obtain ⟨D, left, h1, h2, h3, h4⟩ := h
  rcases h1.next K ty with ⟨_, hl, hrun⟩ | ⟨key, v, kl, y, w', cnt', hkey, hlk, hv, hat, hrun, hrg, hlt, hgr, hsz, hen⟩
  · refine .inl ⟨fun key kl hkey hS => ?_, hrun⟩
    have h5 := (h4 key kl hkey).2 hS
    rw [hl] at h5
    cases h5
  · refine .inr ⟨key, v, kl, y.1, y.2, w', cnt', hkey, (h4 key kl hkey).1 hlk, hv, ?_, hrun, ⟨D, _, hrg, h2, h3, fun x xl hx => ?_⟩, hlt, hgr, hsz, hen⟩
    · have h5 := h3 key kl hkey
      cases hG : G key with
      | none =>
        rw [hG] at h5
        have h6 := (hat (.lit (.bool true))).symm.trans (h5 _)
        have h7 := (hat (.lit (.bool false))).symm.trans (h5 _)
        rw [h6] at h7; cases h7
      | some d =>
        rw [hG] at h5
        rw [← hat .nil, h5]
    · rw [Bool.and_eq_true, h4 x xl hx]
      refine and_congr_right fun _ => ?_
      constructor
      · intro h5 e
        subst e
        have : xl = kl := by rw [hx] at hkey; exact Option.some.inj hkey
        subst this
        rw [WideAt.sameKey_self (K.key hx)] at h5
        cases h5
      · intro h5
        cases hs : xl.sameKey kl with
        | false => rfl
        | true =>
          have := WideAt.sameKey_eq hs
          subst this
          exact absurd (K.inj hx hkey) h5
theorem RangeIs.entry (h : RangeIs w P k R b r n G S cnt) {v : Value} (he : (Instr.entry (.pointer (some ⟨r, 0, none⟩))).run P w = .ok v w) (hb : w'.heap[b]? = w.heap[b]?) (hr : w'.heap[r]? = w.heap[r]?) : (Instr.entry (.pointer (some ⟨r, 0, none⟩))).run P w' = .ok v w' := by
  obtain ⟨D, left, ⟨es, clock, since, seen, c0, h1, h2, h3, h4, h5, h6⟩, h7⟩ := h
  have hb1 := hb.trans h1
  have hr1 := hr.trans h5
  simp only [Instr.entry, getObj, Sem.run_bind, Sem.run, h5, Result.andThen] at he
  simp only [Instr.entry, getObj, Sem.run_bind, Sem.run, hr1, Result.andThen]
  cases hs : seen.back? with
  | none => simp only [hs] at he; cases he
  | some stamp =>
    simp only [hs, Sem.run_bind, Sem.run, h1, Result.andThen] at he
    simp only [hs, Sem.run_bind, Sem.run, hb1, Result.andThen]
    split at he
    · cases he
    · rename_i hc
      rw [if_neg hc]
      cases hf : es.find? (fun x => x.born == stamp) with
      | none => rw [hf] at he; cases he
      | some e =>
        rw [hf] at he
        simp only [Sem.run_pure, Result.ok.injEq, and_true] at he ⊢
        exact he
end
end Av
end Go.Proofs.YtcloigoajohppaaGreatDoor
/- Abstract states: maps that the frame holds besides. Generic. -/
namespace Go.Proofs.YtcloigoajohppaaGreatDoor
open Go.RowKit Go.Maps
open Go.Maps (Keyed)
namespace Av

/-- All blocks of it. -/
def Ext.all (A : Ext) (b : Nat) : Prop := A.foot b ∨ A.froz b
def Ext.and (A B : Ext) : Ext where
  foot b := A.foot b ∨ B.foot b
  froz b := A.froz b ∨ B.froz b
  holds w := A.holds w ∧ B.holds w ∧ ∀ b, A.all b → ¬ B.all b
  stable h hw := ⟨A.stable (fun b hb => h b (hb.elim (fun h => .inl (.inl h)) (fun h => .inr (.inl h)))) hw.1, B.stable (fun b hb => h b (hb.elim (fun h => .inl (.inr h)) (fun h => .inr (.inr h)))) hw.2.1, hw.2.2⟩
  laid w := A.laid w ∧ B.laid w
  reads R := A.reads R ∧ B.reads R
  rmono h hr := ⟨A.rmono h hr.1, B.rmono h hr.2⟩
  veil p := A.veil p ∨ B.veil p
  veilz p h := h.imp (A.veilz p) (B.veilz p)
theorem Turn.all {A A' : Ext} {w w1 : World} (ht : Turn A w w1 A') {b : Nat} (hb : A'.all b) : A.all b ∨ (w.heap.size ≤ b ∧ b < w1.heap.size) := by
  rcases hb with hb | hb
  · exact (ht.foot b hb).elim (fun h => .inl (.inl h)) .inr
  · exact (ht.froz b hb).elim (fun h => .inl (.inl h)) (fun h => h.elim (fun h => .inl (.inr h)) .inr)
theorem Turn.left {A A' B : Ext} {w w1 : World} (hl : ∀ b, B.all b → b < w.heap.size) (hh : (A.and B).holds w) (ht : Turn A w w1 A') : Turn (A.and B) w w1 (A'.and B) := by
  obtain ⟨_, h2, h3⟩ := hh
  have hk : ∀ b, B.all b → ¬ A.foot b := fun b hb ha => h3 b (.inl ha) hb
  refine ⟨ht.os, ht.tape, ht.output, ht.size, fun k hk' hn => ht.block k hk' (fun ha => hn (.inl ha)), ⟨ht.holds, B.stable (fun b hb => ht.block b (hl b hb) (hk b hb)) h2, fun b ha hb => ?_⟩, fun b hb => ?_, fun b hb => ?_, fun w0 h => ⟨ht.laid w0 h.1, h.2⟩, fun R h => ⟨ht.reads R h.1, h.2⟩, fun p h => h.elim (fun h => (ht.veil p h).elim (fun h => .inl (.inl h)) (fun h => h.elim (fun h => .inr (.inl (.inl h))) (fun h => .inr (.inr h)))) (fun h => .inl (.inr h))⟩
  · rcases ht.all ha with h | h
    · exact h3 b h hb
    · have := hl b hb; omega
  · rcases hb with hb | hb
    · rcases ht.foot b hb with h | h
      · exact .inl (.inl h)
      · exact .inr h
    · exact .inl (.inr hb)
  · rcases hb with hb | hb
    · rcases ht.froz b hb with h | h | h
      · exact .inl (.inl h)
      · exact .inr (.inl (.inl h))
      · exact .inr (.inr h)
    · exact .inr (.inl (.inr hb))
theorem Turn.right {A B B' : Ext} {w w1 : World} (hl : ∀ b, A.all b → b < w.heap.size) (hh : (A.and B).holds w) (ht : Turn B w w1 B') : Turn (A.and B) w w1 (A.and B') := by
  obtain ⟨h1, _, h3⟩ := hh
  have hk : ∀ b, A.all b → ¬ B.foot b := fun b ha hb => h3 b ha (.inl hb)
  refine ⟨ht.os, ht.tape, ht.output, ht.size, fun k hk' hn => ht.block k hk' (fun ha => hn (.inr ha)), ⟨A.stable (fun b hb => ht.block b (hl b hb) (hk b hb)) h1, ht.holds, fun b ha hb => ?_⟩, fun b hb => ?_, fun b hb => ?_, fun w0 h => ⟨h.1, ht.laid w0 h.2⟩, fun R h => ⟨h.1, ht.reads R h.2⟩, fun p h => h.elim (fun h => .inl (.inl h)) (fun h => (ht.veil p h).elim (fun h => .inl (.inr h)) (fun h => h.elim (fun h => .inr (.inl (.inr h))) (fun h => .inr (.inr h))))⟩
  · rcases ht.all hb with h | h
    · exact h3 b ha h
    · have := hl b ha; omega
  · rcases hb with hb | hb
    · exact .inl (.inl hb)
    · rcases ht.foot b hb with h | h
      · exact .inl (.inr h)
      · exact .inr h
  · rcases hb with hb | hb
    · exact .inr (.inl (.inl hb))
    · rcases ht.froz b hb with h | h | h
      · exact .inl (.inr h)
      · exact .inr (.inl (.inr h))
      · exact .inr (.inr h)
/-- Something new besides. -/
theorem Turn.more {A B : Ext} {w w1 : World} (hl : ∀ b, A.all b → b < w.heap.size) (hh : A.holds w) (ht : Turn Ext.nil w w1 B) : Turn A w w1 (A.and B) := by
  have hB : ∀ b, B.all b → w.heap.size ≤ b ∧ b < w1.heap.size := fun b hb => (ht.all hb).resolve_left (fun h => h.elim (fun h => h.elim) (fun h => h.elim))
  refine ⟨ht.os, ht.tape, ht.output, ht.size, fun k hk' _ => ht.block k hk' (fun h => h.elim), ⟨A.stable (fun b hb => ht.block b (hl b hb) (fun h => h.elim)) hh, ht.holds, fun b ha hb => ?_⟩, fun b hb => ?_, fun b hb => ?_, fun w0 h => ⟨h, ht.laid w0 trivial⟩, fun R h => ⟨h, ht.reads R trivial⟩, fun p h => h.elim .inl (fun h => (ht.veil p h).elim (fun h => False.elim h) (fun h => h.elim (fun h => False.elim h) (fun h => .inr (.inr h))))⟩
  · have := hl b ha; have := hB b hb; omega
  · rcases hb with hb | hb
    · exact .inl hb
    · exact .inr (hB b (.inl hb))
  · rcases hb with hb | hb
    · exact .inr (.inl hb)
    · exact .inr (.inr (hB b (.inr hb)))
section
variable {P : Program} {k : TypeId} {R : MReader}
theorem rep_of_ints {R : Reader} : ∀ {xs : List Value}, (∀ x ∈ xs, x.oneCell' = true) → RepL R (xs.map PV.v) xs
  | [], _ => .nil
  | _ :: _, h => .cons (.v _ (h _ List.mem_cons_self)) (rep_of_ints fun x hx => h x (List.mem_cons_of_mem _ hx))
/-- A map. -/
def mapE (P : Program) (k : TypeId) (R : MReader) (b n : Nat) (G : Value → Option (DataW Unit)) : Ext where
  foot x := x = b
  froz _ := False
  holds w := MapIs w P k R b n G
  stable h hw := hw.stable (h b (.inl rfl))
theorem Turn.mapMade (w : World) : Turn Ext.nil w (w.alloc (.map #[] 0)) (mapE P k R w.heap.size 0 fun _ => none) := by
  have hb : Below w.heap.size w (w.alloc (.map #[] 0)) := (Below.refl _ _).alloc (Nat.le_refl _) _
  exact Turn.below hb (MapIs.made w) (fun b hb => .inr (by subst hb; simp)) (fun b hb => hb.elim)
theorem Turn.grown {A B : Ext} {w w1 : World} {b : Nat} (hg : w.grownBy w1 (some b)) (hA : A.foot b) (hB : B.holds w1) (hf : ∀ x, B.foot x → A.foot x) (hz : ∀ x, B.froz x → A.foot x ∨ A.froz x) (hl : ∀ w0, A.laid w0 → B.laid w0 := by intros; repeat' (first | assumption | trivial | constructor)) (hrd : ∀ R, A.reads R → B.reads R := by intros; repeat' (first | assumption | trivial | constructor)) (hv : ∀ p, B.veil p → A.veil p ∨ A.foot p.block ∨ w.heap.size ≤ p.block := by intro p h; first | exact False.elim h | exact Or.inl h | (rcases h with h | h <;> first | exact False.elim h | exact Or.inl (Or.inl h) | exact Or.inl (Or.inr h))) : Turn A w w1 B :=
  ⟨hg.os, hg.tape, hg.output, hg.size, fun j hj hn => hg.block j hj (fun e => hn (by cases e; exact hA)), hB, fun x hx => .inl (hf x hx), fun x hx => (hz x hx).elim .inl (fun h => .inr (.inl h)), hl, hrd, hv⟩
variable {n d : Nat} {σ : St} {o : Oper} {K : St → Prop}
/-- 'make' of a map. -/
theorem hand_makeMap {T : TypeId} (k : TypeId) (R : MReader) (ho : o.op = .makeMap T none) (hd : o.dst = some d) (hdn : d < n) (h : ∀ b, K (({ σ with ext := σ.ext.and (mapE P k R b 0 fun _ => none) } : St).put d (.v (.map (some b))))) : Hand P n σ o K := by
  refine hand_value hd hdn fun F γ a w _ hr => ⟨.v (.map (some w.heap.size)), .map (some w.heap.size), w.alloc (.map #[] 0), _, ?_, Turn.more (fun b hb => (hr.extf b hb).2.1) hr.exth (Turn.mapMade w), rfl, (fun k hk => by cases hk), h _⟩
  simp [execOp, ho, Instr.makeMap]
/-- The operands of a map's operation. -/
theorem eval_raw {F : Fr} {γ : Gh} {a : Act} {w : World} (hr : Rel F σ γ a w) {x : Operand} {v : Value} (h : evo (look σ.slot) x = some (.v v)) : a.eval x = v := (evo_ok hr (fun _ _ _ hy => hy) h).1
theorem eval_aggv {F : Fr} {γ : Gh} {a : Act} {w : World} (hr : Rel F σ γ a w) {x : Operand} {xs : List Value} (h : evo (look σ.slot) x = some (.agg (xs.map PV.v))) : a.eval x = .agg xs.toArray := by
  obtain ⟨us, h1, h2⟩ := (evo_ok hr (fun _ _ _ hy => hy) h).1
  rw [h1, rep_ints h2]
end
end Av
end Go.Proofs.YtcloigoajohppaaGreatDoor
/- Abstract states: a call that is walked by hand; a box that gets its block's number as its name. Generic. -/
namespace Go.Proofs.YtcloigoajohppaaGreatDoor
open Go.RowKit
namespace Av
section
variable {P : Program} {F : Fr} {σ : St} {γ : Gh} {a : Act} {w : World}
/-- A call by hand. -/
theorem hand_call {n : Nat} {o : Oper} {d : Nat} {K : St → Prop} (hd : o.dst = some d)
    (h : ∀ (F : Fr) (γ : Gh) (a : Act) (w : World), F.n = n → Rel F σ γ a w → ∃ fid us, (execOp a.eval o).run P w = .ok (.enter fid us) w ∧
      Calls P fid us w fun e w1 => ∃ u σ' γ', e = .returned u ∧ K σ' ∧ Rel F σ' γ' (a.put (some d) u) w1) : Hand P n σ o K := by
  intro F γ a w hF hr Q
  obtain ⟨fid, us, hrun, hc⟩ := h F γ a w hF hr
  unfold Oper.wp
  rw [hrun, Oper.upon_enter, hd]
  refine hc.mono ?_
  rintro e w1 ⟨u, σ', γ', rfl, hK, hrel⟩
  exact ⟨σ', γ', hK, hrel⟩
end
end Av
end Go.Proofs.YtcloigoajohppaaGreatDoor
/- Functions whose contract asks something of the world: package-level tables. Generic. -/
namespace Go.Proofs.YtcloigoajohppaaGreatDoor
open Go.RowKit
namespace Av
/-- What held of the first world. -/
def laidE (C : World → Prop) : Ext where
  foot _ := False
  froz _ := False
  holds _ := True
  stable _ _ := trivial
  laid := C
def startStC (C : World → Prop) (args : List AV) : St := { startSt args with ext := laidE C }
def FnOKC (P : Program) (C : World → Prop) (f : FuncId) (args : List AV) (res : FRes) : Prop :=
  Enters P f ∧ ∀ (w : World) (R : Reader), C w → (∀ p v, R p = some v → w.cell? p = some v) → ∀ us, RepAL R args us →
    Calls P f us.toArray w fun e w' => ∃ u, e = .returned u ∧ Below w.heap.size w w' ∧ ResRep R w w' res u
theorem FnOK.c {P : Program} {C : World → Prop} {f : FuncId} {args : List AV} {res : FRes} (h : FnOK P f args res) : FnOKC P C f args res := ⟨h.1, fun w R _ hR us hus => h.2 w R hR us hus⟩
theorem FnOKC.plain {P : Program} {f : FuncId} {args : List AV} {res : FRes} (h : FnOKC P (fun _ => True) f args res) : FnOK P f args res := ⟨h.1, fun w R hR us hus => h.2 w R trivial hR us hus⟩
section
variable {P : Program}
/-- A function, in worlds of which something holds. -/
theorem fn_okC {C : World → Prop} {f : FuncId} {fn : Func} {c : Code} {args : List AV} {res : FRes} (hf : P.funcs[f]? = some fn) (hname : (fn.name == "runtime.NumGoroutine") = false) (hb : fn.body = some c) (hn : args.length ≤ fn.ntmps ∧ fn.ntmps ≤ 1000000)
    (h : ∀ F : Fr, F.n = fn.ntmps → AWp P F c (fun x σ => (match x with | .exit _ => False | _ => True) ∧ RetOK P fn.results σ res) (startStC C args)) : FnOKC P C f args res := by
  refine ⟨⟨fn, c, hf, hname, hb⟩, fun w R hC hR us hus => calls_of_wp hf hb ?_⟩
  have hlen := hus.length
  let F : Fr := ⟨R, w, fn.ntmps⟩
  have hmut : ∀ γ p, ¬ (startStC C args).mut γ p := fun γ p => by
    rintro (⟨k, cs, h1, _⟩ | ⟨L, e, sz, rows, h1, _⟩ | h1 | h1)
    · cases h1
    · cases h1
    · exact False.elim h1
    · exact False.elim h1
  let γ0 : Gh := ⟨fun _ => 0, fun _ => none⟩
  have hR0 : ∀ p v, R p = some v → rdr R w.heap.size (startStC C args) γ0 w p = some v := fun p v hp => by
    have := Rel.cell_lt (hR p v hp)
    unfold rdr
    rw [if_pos this]; exact hp
  have hrel : Rel F (startStC C args) γ0 { tmps := us.toArray ++ Array.replicate (fn.ntmps - us.toArray.size) undef, defers := [] } w := by
    refine ⟨rfl, ?_, Below.refl _ _, hR, fun t x hx => ?_, fun k cs hk => (by cases hk), fun k k' hk => (by cases hk), fun L e sz hL => (by cases hL), fun L L' g hL => (by cases hL), fun L k g hL => (by cases hL), trivial, fun b hb => hb.elim (fun (h : False) => h.elim) (fun (h : False) => h.elim), hn.2, fun k hk => (by cases hk), hC, trivial⟩
    · show _ = fn.ntmps
      simp; omega
    · have hx' : args[t]? = some x := by
        have := hx
        unfold startStC startSt at this
        rw [look_start] at this
        simpa using this
      obtain ⟨u, h1, h2, h3⟩ := hus.get hx'
      have ht : t < us.length := (List.getElem?_eq_some_iff.1 h1).1
      refine ⟨?_, fun k hk => by rw [h3] at hk; cases hk⟩
      have : (us.toArray ++ Array.replicate (fn.ntmps - us.toArray.size) undef).getD t undef = u := by
        rw [Array.getD_eq_getD_getElem?, Array.getElem?_append_left (by simpa using ht)]
        simp [h1]
      rw [this]
      exact h2.mono hR0 (fun k _ => rfl)
  refine wp_mono (h F rfl γ0 _ w hrel) ?_
  rintro e a' w' ⟨x, σ', γ', rfl, ⟨hx, hret⟩, hr'⟩
  have hbody : ∀ v, (results fn a'.tmps).run P w' = .ok v w' ∧ ResRep R w w' res v → bodyPost P fn (fun e w' => ∃ u, e = .returned u ∧ Below w.heap.size w w' ∧ ResRep R w w' res u) x.exit_ a' w' := fun v hv => by
    cases x with
    | normal => exact ⟨hr'.defers, v, hv.1, v, rfl, hr'.below, hv.2⟩
    | exit id => exact hx.elim
    | ret => exact ⟨hr'.defers, v, hv.1, v, rfl, hr'.below, hv.2⟩
  rcases hret with ⟨t, sz, rows, e, h1, h2, h3, rfl⟩ | hret
  · refine hbody (a'.tmps.getD t undef) ⟨by simp [results_eq, h1, resOne], ?_⟩
    obtain ⟨rows', v, h4, h5, h6⟩ := hr'.owns _ _ _ h3
    have h7 : look σ'.slot t = some (.sl sz rows') := h4
    rw [h2] at h7
    cases h7
    have h8 : v = a'.tmps.getD t undef := by simpa [valAt] using h5.symm
    subst h8
    refine ⟨γ'.rw (.s t), h6, RepP.mono (fun p v hp => ?_) (hr'.slots t _ h2).1⟩
    unfold fresh
    unfold rdr at hp
    by_cases hB : p.block < w.heap.size
    · rw [if_pos hB]; rw [if_pos hB] at hp; exact hp
    · rw [if_neg hB] at hp ⊢
      by_cases hm : σ'.mut γ' p
      · rw [if_pos hm] at hp; cases hp
      · rw [if_neg hm] at hp
        rw [if_neg]
        · exact hp
        · rintro ⟨h9, h10⟩
          exact hm (.inr (.inl ⟨.s t, e, sz, rows, h3, h2, h9, h10⟩))
  · obtain ⟨cs, vs, h1, h2, h3⟩ := retAll_ok hr' hret
    have hrun : (results fn a'.tmps).run P w' = .ok (if h : vs.toArray.size = 1 then vs.toArray[0] else .tuple vs.toArray) w' := by
      rw [results_eq, Array.mapM_eq_mapM_toList, Sem.run_bind, Sem.run_map, h3]
      rfl
    have hmono : ∀ {c : CV} {u : Value}, RepC (rdr R w.heap.size σ' γ' w') c u → RepA (fresh R w w' none 0) (fun _ => 0) c.av u := fun hc => (hc.mono rdr_fresh).av
    refine hbody _ ⟨hrun, ?_⟩
    subst h1
    cases h2 with
    | nil => exact ⟨rfl, [], by simp, .nil⟩
    | cons hc ht =>
      cases ht with
      | nil =>
        refine ⟨?_, by simpa using hmono hc⟩
        rename_i c _
        cases c with
        | c p => cases p <;> rfl
        | g xs => rfl
      | cons hc' ht' =>
        exact ⟨rfl, _, by simp, .cons (hc.mono rdr_fresh) (.cons (hc'.mono rdr_fresh) (ht'.mono rdr_fresh))⟩

/-- The call of such a function. -/
theorem hand_fnC {C : World → Prop} {n d fid : Nat} {σ : St} {o : Oper} {K : St → Prop} {args : Array Operand} {ats : Array TypeId} {avs avs' : List AV} {res : FRes} (hst : ∀ {w w' : World}, Below w.heap.size w w' → C w → C w') (ho : o.op = .call { callee := .value (.func fid), args := args, argTypes := ats }) (hd : o.dst = some d) (hdn : d < n) (he : σ.ext = laidE C)
    (h3 : evos (look σ.slot) args.toList = some avs) (h4 : snaps (look σ.box) avs = some avs') (h5 : FnOKC P C fid avs' res) (h6 : (avs.all fun x => x.refs.isEmpty) = true) (h : K (σ.res d ⟨res.av, none, res.own⟩)) : Hand P n σ o K := by
  refine hand_call hd fun F γ a w hF hr => ?_
  have hC0 : C F.w0 := by have := hr.laid; rw [he] at this; exact this
  have hC : C w := hst hr.below hC0
  obtain ⟨henter, hcall⟩ := h5
  have gA := evos_ok hr (fun t y _ hy => hy) h3
  obtain ⟨_, g7⟩ := snaps_ok hr (fun _ _ h => h) gA h4
  have hf : a.eval (.func fid) = .func (.func fid) #[] #[] := rfl
  refine ⟨fid, args.map a.eval, ?_, ?_⟩
  · simp [execOp, ho, resolve, hf, Deferred.ofValue, invoke, run_callFunc henter]
  · have hargs : args.map a.eval = (args.toList.map a.eval).toArray := by
      obtain ⟨l⟩ := args
      simp
    rw [hargs]
    refine (hcall w _ hC (fun p v hp => hr.cell hp) _ (g7 h6)).mono ?_
    rintro e w1 ⟨u, rfl, hb, hres⟩
    obtain ⟨γ', _, hrel⟩ := hr.call hb (by rw [hF]; exact hdn) hres
    exact ⟨u, _, γ', rfl, h, hrel⟩
end
end Av
theorem tab_below {P : Program} {w w' : World} {name : String} {k : IntKind} {zs : List Int} (hb : Below w.heap.size w w') (h : Lib.TabIs P w name k zs) : Lib.TabIs P w' name k zs := by
  unfold Lib.TabIs World.var? at h ⊢
  cases hg : P.globalNamed name with
  | none => rw [hg] at h; cases h
  | some g =>
    rw [hg] at h
    simp only [Option.bind_some] at h ⊢
    have hlt : g < w.heap.size := by
      refine Classical.byContradiction fun hn => ?_
      rw [Array.getElem?_eq_none (by omega)] at h
      cases h
    rw [hb.block g hlt]
    exact h
end Go.Proofs.YtcloigoajohppaaGreatDoor
/- A function that has some boxes of its caller's for its own while it runs: a method, a closure. Generic. -/
namespace Go.Proofs.YtcloigoajohppaaGreatDoor
open Go.RowKit
namespace Av

/-- A box that is lent: its cells, and which of them own their rows. -/
structure BX where
  cs : List PV
  ow : List (Nat × (TypeId × Nat)) := []
/-- An argument: a pointer into a box that is lent, or a datum. -/
inductive MA where
  | r (i off : Nat)
  | p (x : AV)
def MA.av (μ : Nat → Nat) : MA → AV
  | .r i off => .ref (μ i) off
  | .p x => x
def mOwn (G : Nat) (ow : List (Nat × (TypeId × Nat))) : List (Loc × (TypeId × Nat)) := ow.map fun x => (.b G x.1, x.2)
def nBoxes (μ : Nat → Nat) : Nat → List BX → List (Nat × List PV)
  | _, [] => []
  | i, b :: B => (μ i, b.cs) :: nBoxes μ (i + 1) B
def nOwn (μ : Nat → Nat) : Nat → List BX → List (Loc × (TypeId × Nat))
  | _, [] => []
  | i, b :: B => mOwn (μ i) b.ow ++ nOwn μ (i + 1) B
def boxesSt (sl : List (Nat × AV)) (μ : Nat → Nat) (B : List BX) (E : Ext) : St := ⟨sl, nBoxes μ 0 B, nOwn μ 0 B, E⟩
def nm (ν : Nat → Nat) (i : Nat) : Nat := ν i + 1000000
def Inj (μ : Nat → Nat) (n : Nat) : Prop := ∀ i j, i < n → j < n → μ i = μ j → i = j
theorem lookL_app : ∀ (l m : List (Loc × (TypeId × Nat))) (L : Loc), lookL (l ++ m) L = match lookL l L with | some e => some e | none => lookL m L
  | [], _, _ => rfl
  | (M, y) :: l, m, L => by
    rw [List.cons_append, lookL_cons, lookL_cons, lookL_app l m L]
    split <;> rfl
theorem look_app {α : Type} : ∀ (l m : List (Nat × α)) (k : Nat), look (l ++ m) k = match look l k with | some e => some e | none => look m k
  | [], _, _ => rfl
  | (M, y) :: l, m, L => by
    rw [List.cons_append, look_cons, look_cons, look_app l m L]
    split <;> rfl
theorem lookL_mO (G o : Nat) : ∀ (ow : List (Nat × (TypeId × Nat))), lookL (mOwn G ow) (.b G o) = look ow o
  | [] => rfl
  | x :: ow => by
    unfold mOwn
    rw [List.map_cons, lookL_cons, look_cons]
    have ih := lookL_mO G o ow
    unfold mOwn at ih
    rw [ih]
    by_cases h : x.1 = o
    · subst h; rw [if_pos rfl, if_pos rfl]
    · rw [if_neg h, if_neg (fun e => h (by cases e; rfl))]
theorem lookL_mOwn {G : Nat} : ∀ {ow : List (Nat × (TypeId × Nat))} {L : Loc} {e : TypeId × Nat}, lookL (mOwn G ow) L = some e → ∃ off, L = .b G off
  | [], _, _, h => by cases h
  | x :: ow, L, e, h => by
    unfold mOwn at h
    rw [List.map_cons, lookL_cons] at h
    split at h
    · rename_i hk; exact ⟨x.1, hk.symm⟩
    · exact lookL_mOwn h
section
variable {μ : Nat → Nat}
theorem nBoxes_inv : ∀ {B : List BX} {i k : Nat} {cs : List PV}, look (nBoxes μ i B) k = some cs → ∃ j b, B[j]? = some b ∧ k = μ (i + j) ∧ cs = b.cs
  | [], i, k, cs, h => by cases h
  | b :: B, i, k, cs, h => by
    unfold nBoxes at h
    rw [look_cons] at h
    split at h
    · rename_i hk; cases h; exact ⟨0, b, rfl, hk.symm, rfl⟩
    · obtain ⟨j, c, h1, h2, h3⟩ := nBoxes_inv h
      exact ⟨j + 1, c, h1, by rw [h2]; congr 1; omega, h3⟩
theorem nBoxes_at : ∀ {B : List BX} {i j : Nat} {b : BX}, Inj μ (i + B.length) → B[j]? = some b → look (nBoxes μ i B) (μ (i + j)) = some b.cs
  | [], i, j, b, _, h => by simp at h
  | c :: B, i, j, b, hi, h => by
    unfold nBoxes
    rw [look_cons]
    cases j with
    | zero => simp at h; subst h; rw [Nat.add_zero, if_pos rfl]
    | succ j =>
      have hj : j < B.length := by
        have := (List.getElem?_eq_some_iff.1 h).1
        simpa using this
      rw [if_neg (fun e => by
        have := hi i (i + (j + 1)) (by simp) (by simp; omega) e
        omega), show i + (j + 1) = (i + 1) + j by omega]
      exact nBoxes_at (by rw [show i + 1 + B.length = i + (c :: B).length by simp; omega]; exact hi) (by simpa using h)
theorem nBoxes_none {B : List BX} {i k : Nat} (h : ∀ j, j < B.length → k ≠ μ (i + j)) : look (nBoxes μ i B) k = none := by
  cases hq : look (nBoxes μ i B) k with
  | none => rfl
  | some cs =>
    obtain ⟨j, b, h1, h2, _⟩ := nBoxes_inv hq
    exact absurd h2 (h j (List.getElem?_eq_some_iff.1 h1).1)
theorem nOwn_inv : ∀ {B : List BX} {i : Nat} {L : Loc} {e : TypeId × Nat}, lookL (nOwn μ i B) L = some e → ∃ j b o, B[j]? = some b ∧ L = .b (μ (i + j)) o ∧ look b.ow o = some e
  | [], i, L, e, h => by cases h
  | b :: B, i, L, e, h => by
    unfold nOwn at h
    rw [lookL_app] at h
    cases hq : lookL (mOwn (μ i) b.ow) L with
    | some e' =>
      rw [hq] at h
      cases h
      obtain ⟨o, rfl⟩ := lookL_mOwn hq
      rw [lookL_mO] at hq
      exact ⟨0, b, o, rfl, rfl, hq⟩
    | none =>
      rw [hq] at h
      obtain ⟨j, c, o, h1, h2, h3⟩ := nOwn_inv h
      exact ⟨j + 1, c, o, h1, by rw [h2]; congr 2; omega, h3⟩
theorem nOwn_at : ∀ {B : List BX} {i j : Nat} {b : BX} {o : Nat}, Inj μ (i + B.length) → B[j]? = some b → lookL (nOwn μ i B) (.b (μ (i + j)) o) = look b.ow o
  | [], i, j, b, o, _, h => by simp at h
  | c :: B, i, j, b, o, hi, h => by
    unfold nOwn
    rw [lookL_app]
    cases j with
    | zero =>
      simp at h
      subst h
      rw [Nat.add_zero, lookL_mO]
      cases hq : look c.ow o with
      | some e => rfl
      | none =>
        dsimp only
        cases hq2 : lookL (nOwn μ (i + 1) B) (.b (μ i) o) with
        | none => rfl
        | some e =>
          obtain ⟨j', b', o', h1, h2, _⟩ := nOwn_inv hq2
          have hlt := (List.getElem?_eq_some_iff.1 h1).1
          have h2 : μ i = μ (i + 1 + j') := by injection h2
          have := hi i (i + 1 + j') (by simp) (by simp; omega) h2
          omega
    | succ j =>
      have hj : j < B.length := by
        have := (List.getElem?_eq_some_iff.1 h).1
        simpa using this
      have hne : lookL (mOwn (μ i) c.ow) (.b (μ (i + (j + 1))) o) = none := by
        cases hq : lookL (mOwn (μ i) c.ow) (.b (μ (i + (j + 1))) o) with
        | none => rfl
        | some e =>
          obtain ⟨o', ho⟩ := lookL_mOwn hq
          have h2 : μ (i + (j + 1)) = μ i := by injection ho
          have := hi (i + (j + 1)) i (by simp; omega) (by simp) h2
          omega
      rw [hne]
      dsimp only
      rw [show i + (j + 1) = (i + 1) + j by omega]
      exact nOwn_at (by rw [show i + 1 + B.length = i + (c :: B).length by simp; omega]; exact hi) (by simpa using h)
theorem nOwn_none {B : List BX} {i : Nat} {L : Loc} (h : ∀ j o, j < B.length → L ≠ .b (μ (i + j)) o) : lookL (nOwn μ i B) L = none := by
  cases hq : lookL (nOwn μ i B) L with
  | none => rfl
  | some e =>
    obtain ⟨j, b, o, h1, h2, _⟩ := nOwn_inv hq
    exact absurd h2 (h j o (List.getElem?_eq_some_iff.1 h1).1)
end
def RepM (R : Reader) (ν : Nat → Nat) (n : Nat) : MA → Value → Prop
  | .r i off, u => i < n ∧ u = .pointer (some ⟨ν i, off, none⟩)
  | .p x, u => x.refs = [] ∧ RepA R (fun _ => 0) x u
inductive RepML (R : Reader) (ν : Nat → Nat) (n : Nat) : List MA → List Value → Prop
  | nil : RepML R ν n [] []
  | cons {x : MA} {u : Value} {xs : List MA} {us : List Value} (h : RepM R ν n x u) (t : RepML R ν n xs us) : RepML R ν n (x :: xs) (u :: us)
theorem RepML.length {R : Reader} {ν : Nat → Nat} {n : Nat} {xs : List MA} {us : List Value} (h : RepML R ν n xs us) : us.length = xs.length := by
  induction h with
  | nil => rfl
  | cons _ _ ih => simp [ih]
theorem RepML.get {R : Reader} {ν : Nat → Nat} {n : Nat} {xs : List MA} {us : List Value} (h : RepML R ν n xs us) : ∀ {i : Nat} {x : MA}, xs[i]? = some x → ∃ u, us[i]? = some u ∧ RepM R ν n x u := by
  induction h with
  | nil => intro i x hx; simp at hx
  | cons h _ ih =>
    intro i x hx
    cases i with
    | zero => simp at hx; subst hx; exact ⟨_, rfl, h⟩
    | succ i => simpa using ih (by simpa using hx)
theorem mut_slots {sl sl' : List (Nat × AV)} {μ : Nat → Nat} {B : List BX} {E : Ext} {γ : Gh} {p : Addr} (h : (boxesSt sl μ B E).mut γ p) : (boxesSt sl' μ B E).mut γ p := by
  rcases h with h | ⟨L, e, sz, rows, h1, h2, h3, h4⟩ | h
  · exact .inl h
  · obtain ⟨j, b, o, _, rfl, _⟩ := nOwn_inv h1
    exact .inr (.inl ⟨_, e, sz, rows, h1, h2, h3, h4⟩)
  · exact .inr (.inr h)
theorem rdr_slots {R : Reader} {N : Nat} {sl sl' : List (Nat × AV)} {μ : Nat → Nat} {B : List BX} {E : Ext} {γ : Gh} {w : World} : rdr R N (boxesSt sl μ B E) γ w = rdr R N (boxesSt sl' μ B E) γ w := by
  funext p
  have : (boxesSt sl μ B E).mut γ p ↔ (boxesSt sl' μ B E).mut γ p := ⟨mut_slots, mut_slots⟩
  unfold rdr
  by_cases h : (boxesSt sl μ B E).mut γ p
  · rw [if_pos h, if_pos (this.1 h)]
  · rw [if_neg h, if_neg (fun h' => h (this.2 h'))]
/-- The same memory seen by another activation. -/
theorem Rel.reAct {F : Fr} {n : Nat} {sl sl' : List (Nat × AV)} {μ : Nat → Nat} {B : List BX} {E : Ext} {γ : Gh} {a a' : Act} {w : World} (h : Rel F (boxesSt sl μ B E) γ a w) (hd : a'.defers = []) (hs : a'.tmps.size = n) (hn : n ≤ 1000000)
    (hsl : ∀ t x, look sl' t = some x → RepA (rdr F.R0 F.w0.heap.size (boxesSt sl μ B E) γ w) γ.bx x (a'.tmps.getD t undef) ∧ ∀ k ∈ x.refs, (look (nBoxes μ 0 B) k).isSome) : Rel { F with n := n } (boxesSt sl' μ B E) γ a' w := by
  refine ⟨hd, hs, h.below, h.r0, fun t x hx => ?_, fun k cs' hk => ?_, h.boxinj, fun L e sz hL => ?_, h.rowinj, h.rowbox, h.exth, h.extf, hn, h.dyn, h.laid, ?_⟩
  · show RepA (rdr F.R0 F.w0.heap.size (boxesSt sl' μ B E) γ w) _ _ _ ∧ _
    rw [rdr_slots (sl' := sl)]
    exact hsl t x hx
  · obtain ⟨us, ty, h1, h2, h3⟩ := h.boxes k cs' hk
    refine ⟨us, ty, h1, h2, ?_⟩
    show RepL (rdr F.R0 F.w0.heap.size (boxesSt sl' μ B E) γ w) _ _
    rw [rdr_slots (sl' := sl)]
    exact h3
  · obtain ⟨j, b, o, _, rfl, _⟩ := nOwn_inv hL
    exact h.owns _ e sz hL
  · show E.reads (rdr F.R0 F.w0.heap.size (boxesSt sl' μ B E) γ w)
    rw [rdr_slots (sl' := sl)]
    exact h.extr
def RetO (G : Nat) (σ : St) : List (Nat × (TypeId × Nat)) → Prop
  | [] => True
  | x :: l => lookL σ.own (.b G x.1) = some x.2 ∧ RetO G σ l
def RetB (μ : Nat → Nat) (σ : St) : Nat → List BX → Prop
  | _, [] => True
  | i, b :: B => look σ.box (μ i) = some b.cs ∧ RetO (μ i) σ b.ow ∧ RetB μ σ (i + 1) B
theorem RetO.at {G : Nat} {σ : St} : ∀ {l : List (Nat × (TypeId × Nat))}, RetO G σ l → ∀ {o : Nat} {e : TypeId × Nat}, look l o = some e → lookL σ.own (.b G o) = some e
  | [], _, o, e, h => by cases h
  | x :: l, hr, o, e, h => by
    rw [look_cons] at h
    split at h
    · rename_i hx; subst hx; cases h; exact hr.1
    · exact RetO.at hr.2 h
theorem RetB.at {μ : Nat → Nat} {σ : St} : ∀ {B : List BX} {i : Nat}, RetB μ σ i B → ∀ {j : Nat} {b : BX}, B[j]? = some b → look σ.box (μ (i + j)) = some b.cs ∧ RetO (μ (i + j)) σ b.ow
  | [], _, _, j, b, h => by simp at h
  | c :: B, i, hr, j, b, h => by
    cases j with
    | zero => simp at h; subst h; exact ⟨hr.1, hr.2.1⟩
    | succ j =>
      have := RetB.at hr.2.2 (j := j) (b := b) (by simpa using h)
      rw [show i + (j + 1) = i + 1 + j by omega]
      exact this
section
variable {P : Program}
end
end Av
end Go.Proofs.YtcloigoajohppaaGreatDoor
/- A function with lent boxes is called: the frame rule. Generic. -/
namespace Go.Proofs.YtcloigoajohppaaGreatDoor
open Go.RowKit
namespace Av

def atK (ks : List Nat) : Loc → Bool
  | .b j _ => ks.contains j
  | .s _ => false
def kn (ks : List Nat) (i : Nat) : Nat := ks.getD i 0
theorem kn_inj {ks : List Nat} (h : ks.Nodup) : Inj (kn ks) ks.length := fun i j hi hj e => by
  unfold kn at e
  rw [List.getD_eq_getElem?_getD, List.getD_eq_getElem?_getD, List.getElem?_eq_getElem hi, List.getElem?_eq_getElem hj, Option.getD_some, Option.getD_some] at e
  rcases Nat.lt_trichotomy i j with h1 | h1 | h1
  · exact absurd e (List.pairwise_iff_getElem.1 h i j hi hj h1)
  · exact h1
  · exact absurd e.symm (List.pairwise_iff_getElem.1 h j i hj hi h1)
theorem kn_mem {ks : List Nat} {i : Nat} (hi : i < ks.length) : kn ks i ∈ ks := by
  unfold kn
  rw [List.getD_eq_getElem?_getD, List.getElem?_eq_getElem hi]
  exact List.getElem_mem hi
theorem mem_kn {ks : List Nat} {k : Nat} (h : k ∈ ks) : ∃ i, i < ks.length ∧ kn ks i = k := by
  obtain ⟨i, hi, e⟩ := List.mem_iff_getElem.1 h
  exact ⟨i, hi, by unfold kn; rw [List.getD_eq_getElem?_getD, List.getElem?_eq_getElem hi]; exact e⟩
theorem atK_inv {ks : List Nat} {L : Loc} (h : atK ks L = true) : ∃ i o, i < ks.length ∧ L = .b (kn ks i) o := by
  cases L with
  | s t => cases h
  | b j o =>
    obtain ⟨i, hi, e⟩ := mem_kn (show j ∈ ks by simpa [atK] using h)
    exact ⟨i, o, hi, by rw [e]⟩
theorem atK_kn {ks : List Nat} {i o : Nat} (hi : i < ks.length) : atK ks (.b (kn ks i) o) = true := by
  simpa [atK] using kn_mem hi
theorem lookL_filterK (ks : List Nat) : ∀ (l : List (Loc × (TypeId × Nat))) (L : Loc), lookL (l.filter fun x => !atK ks x.1) L = if atK ks L = true then none else lookL l L
  | [], L => by simp [lookL]
  | (M, y) :: l, L => by
    by_cases hM : atK ks M = true
    · rw [List.filter_cons_of_neg (by simp [hM]), lookL_filterK ks l L]
      by_cases hL : atK ks L = true
      · rw [if_pos hL, if_pos hL]
      · rw [if_neg hL, if_neg hL, lookL_cons, if_neg (fun e => hL (by rw [← e]; exact hM))]
    · rw [List.filter_cons_of_pos (by simp [hM]), lookL_cons, lookL_cons, lookL_filterK ks l L]
      by_cases e : M = L
      · subst e; rw [if_pos rfl, if_pos rfl, if_neg hM]
      · rw [if_neg e, if_neg e]
/-- Behind the call: the boxes hold this, and own these. -/
def mSt (σ : St) (ks : List Nat) (B : List BX) : St := { slot := σ.slot, box := nBoxes (kn ks) 0 B ++ σ.box, own := nOwn (kn ks) 0 B ++ σ.own.filter (fun x => !atK ks x.1), ext := σ.ext }
section
variable {σ : St} {ks : List Nat} {B : List BX}
theorem mSt_box_in (hnd : ks.Nodup) (hl : B.length = ks.length) {j : Nat} {b : BX} (hb : B[j]? = some b) : look (mSt σ ks B).box (kn ks j) = some b.cs := by
  show look (nBoxes (kn ks) 0 B ++ _) _ = _
  have := nBoxes_at (μ := kn ks) (i := 0) (j := j) (by rw [Nat.zero_add, hl]; exact kn_inj hnd) hb
  rw [Nat.zero_add] at this
  rw [look_app, this]
theorem mSt_box_out (hl : B.length = ks.length) {k : Nat} (hk : k ∉ ks) : look (mSt σ ks B).box k = look σ.box k := by
  show look (nBoxes (kn ks) 0 B ++ _) _ = _
  rw [look_app, nBoxes_none (fun j hj e => hk (by rw [e, Nat.zero_add]; exact kn_mem (by omega)))]
theorem mSt_own_in (hnd : ks.Nodup) (hl : B.length = ks.length) {j o : Nat} {b : BX} (hb : B[j]? = some b) : lookL (mSt σ ks B).own (.b (kn ks j) o) = look b.ow o := by
  show lookL (nOwn (kn ks) 0 B ++ _) _ = _
  have hj : j < ks.length := by rw [← hl]; exact (List.getElem?_eq_some_iff.1 hb).1
  have := nOwn_at (μ := kn ks) (i := 0) (j := j) (o := o) (by rw [Nat.zero_add, hl]; exact kn_inj hnd) hb
  rw [Nat.zero_add] at this
  rw [lookL_app, this, lookL_filterK, if_pos (atK_kn hj)]
  cases look b.ow o <;> rfl
theorem mSt_own_out (hl : B.length = ks.length) {L : Loc} (h : atK ks L = false) : lookL (mSt σ ks B).own L = lookL σ.own L := by
  show lookL (nOwn (kn ks) 0 B ++ _) _ = _
  rw [lookL_app, nOwn_none (fun j o hj e => by rw [e, Nat.zero_add, atK_kn (by omega)] at h; cases h), lookL_filterK, if_neg (by simp [h])]
theorem mSt_av_out (hl : B.length = ks.length) {L : Loc} (h : atK ks L = false) : (mSt σ ks B).avAt L = σ.avAt L := by
  cases L with
  | s t => rfl
  | b j o =>
    have : j ∉ ks := by simpa [atK] using h
    show ((look (mSt σ ks B).box j).bind _).map _ = _
    rw [mSt_box_out hl this]
    rfl
end
/-- What the callee holds of its caller's frame. -/
def lendE (σ : St) (ks : List Nat) (γ : Gh) (a : Act) (w : World) : Ext where
  foot b := σ.ext.foot b ∨ ∃ j cs, j ∉ ks ∧ look σ.box j = some cs ∧ b = γ.bx j
  froz b := σ.ext.froz b ∨ ∃ L e, lookL σ.own L = some e ∧ atK ks L = false ∧ γ.rw L = some b
  holds w' := σ.ext.holds w' ∧ (∀ j cs, j ∉ ks → look σ.box j = some cs → w'.heap[γ.bx j]? = w.heap[γ.bx j]?) ∧ ∀ L e b, lookL σ.own L = some e → atK ks L = false → γ.rw L = some b → w'.heap[b]? = w.heap[b]?
  stable h hw := ⟨σ.ext.stable (fun b hb => h b (hb.elim (fun h => .inl (.inl h)) (fun h => .inr (.inl h)))) hw.1, fun j cs hj hk => (h _ (.inl (.inr ⟨j, cs, hj, hk, rfl⟩))).trans (hw.2.1 j cs hj hk), fun L e b h1 h2 h3 => (h b (.inr (.inr ⟨L, e, h1, h2, h3⟩))).trans (hw.2.2 L e b h1 h2 h3)⟩
  laid := σ.ext.laid
  reads R := σ.ext.reads R ∧ (∀ t x, look σ.slot t = some x → RepA R γ.bx x (a.tmps.getD t undef)) ∧ ∀ j cs, j ∉ ks → look σ.box j = some cs → ∃ (us : List Value) (ty : TypeId), w.heap[γ.bx j]? = some (.cells us.toArray ty (0, 0)) ∧ RepL R cs us
  rmono h hr := ⟨σ.ext.rmono h hr.1, fun t x hx => (hr.2.1 t x hx).mono h (fun _ _ => rfl), fun j cs hj hk => by
    obtain ⟨us, ty, h1, h2⟩ := hr.2.2 j cs hj hk
    exact ⟨us, ty, h1, h2.mono h⟩⟩
  veil p := σ.ext.veil p ∨ ∃ L e sz rows, lookL σ.own L = some (e, sz) ∧ atK ks L = false ∧ σ.avAt L = some (.sl sz rows) ∧ γ.rw L = some p.block ∧ rows.length * sz ≤ p.off
  veilz p h := h.elim (fun h => .inl (σ.ext.veilz p h)) (fun ⟨L, e, sz, _, h1, h2, _, h3, _⟩ => .inr ⟨L, (e, sz), h1, h2, h3⟩)
def bn (γ : Gh) (ks : List Nat) (i : Nat) : Nat := γ.bx (kn ks i)
/-- In the callee: which of its names stands for which of the caller's. -/
noncomputable def un (γ : Gh) (ks : List Nat) (j : Nat) : Nat := by
  classical
  exact if h : ∃ i, i < ks.length ∧ nm (bn γ ks) i = j then h.choose else 0
noncomputable def lendG (γ : Gh) (ks : List Nat) : Gh := { bx := fun j => bn γ ks (un γ ks j), rw := fun L => match L with | .b j o => γ.rw (.b (kn ks (un γ ks j)) o) | .s _ => none }
section
variable {P : Program} {F : Fr} {σ : St} {γ : Gh} {a : Act} {w : World}
theorem un_at {ks : List Nat} (hinj : Inj (bn γ ks) ks.length) {i : Nat} (hi : i < ks.length) : un γ ks (nm (bn γ ks) i) = i := by
  have h : ∃ i', i' < ks.length ∧ nm (bn γ ks) i' = nm (bn γ ks) i := ⟨i, hi, rfl⟩
  unfold un
  rw [dif_pos h]
  have h1 := h.choose_spec
  exact hinj _ _ h1.1 hi (Nat.add_right_cancel h1.2)
theorem lend_le (h : Rel F σ γ a w) {ks : List Nat} {B : List BX} (hinj : Inj (bn γ ks) ks.length) (hl : B.length = ks.length) (hB : RetB (kn ks) σ 0 B) :
    ∀ p v, rdr F.R0 F.w0.heap.size σ γ w p = some v → rdr F.R0 F.w0.heap.size (boxesSt [] (nm (bn γ ks)) B (lendE σ ks γ a w)) (lendG γ ks) w p = some v := by
  have hinjN : Inj (nm (bn γ ks)) (0 + B.length) := fun i j hi hj e => hinj i j (by omega) (by omega) (by unfold nm at e; omega)
  refine rdr_le fun p v hb hm hc => ⟨fun hm' => hm ?_, hc⟩
  rcases hm' with ⟨j, cs1, hj, hp⟩ | ⟨L, e, sz, rows, h1, h2, h3, h4⟩ | (hx | hx)
  · obtain ⟨i, b, hi, rfl, rfl⟩ := nBoxes_inv hj
    have hil : i < ks.length := by rw [← hl]; exact (List.getElem?_eq_some_iff.1 hi).1
    have hbx := (hB.at hi).1
    rw [Nat.zero_add] at hbx hp
    refine .inl ⟨kn ks i, b.cs, hbx, ?_⟩
    show p.block = bn γ ks i
    rw [hp]
    show bn γ ks (un γ ks (nm (bn γ ks) i)) = _
    rw [un_at hinj hil]
  · obtain ⟨i, b, o, hi, rfl, ho⟩ := nOwn_inv h1
    have hil : i < ks.length := by rw [← hl]; exact (List.getElem?_eq_some_iff.1 hi).1
    obtain ⟨hb1, hb2⟩ := hB.at hi
    rw [Nat.zero_add] at hb1 hb2 h2 h3
    refine .inr (.inl ⟨.b (kn ks i) o, e, sz, rows, hb2.at ho, ?_, ?_, h4⟩)
    · have hat := nBoxes_at (μ := nm (bn γ ks)) (i := 0) (j := i) hinjN hi
      rw [Nat.zero_add] at hat
      have h2' : ((look (nBoxes (nm (bn γ ks)) 0 B) (nm (bn γ ks) i)).bind (·[o]?)).map PV.av = some (.sl sz rows) := h2
      rw [hat] at h2'
      show ((look σ.box (kn ks i)).bind (·[o]?)).map PV.av = _
      rw [hb1]; exact h2'
    · have h3' : γ.rw (.b (kn ks (un γ ks (nm (bn γ ks) i))) o) = some p.block := h3
      rw [un_at hinj hil] at h3'
      exact h3'
  · rcases hx with hx | ⟨j, cs1, _, hj, hp⟩
    · exact .inr (.inr (.inl hx))
    · exact .inl ⟨j, cs1, hj, hp⟩
  · rcases hx with hx | ⟨L, e, sz, rows, h1, _, h2, h3, h4⟩
    · exact .inr (.inr (.inr hx))
    · exact .inr (.inl ⟨L, e, sz, rows, h1, h2, h3, h4⟩)
theorem lend_inj (h : Rel F σ γ a w) {ks : List Nat} {B : List BX} (hnd : ks.Nodup) (hl : B.length = ks.length) (hB : RetB (kn ks) σ 0 B) : Inj (bn γ ks) ks.length := fun i j hi hj e => by
  have hs : ∀ i, i < ks.length → (look σ.box (kn ks i)).isSome := fun i hi => by
    have := (hB.at (List.getElem?_eq_getElem (show i < B.length by omega))).1
    rw [Nat.zero_add] at this
    rw [this]; rfl
  exact kn_inj hnd i j hi hj (h.boxinj _ _ (hs i hi) (hs j hj) e)
/-- Boxes are lent. -/
theorem Rel.lend (h : Rel F σ γ a w) {ks : List Nat} {B : List BX} (hnd : ks.Nodup) (hl : B.length = ks.length) (hB : RetB (kn ks) σ 0 B) :
    Rel F (boxesSt [] (nm (bn γ ks)) B (lendE σ ks γ a w)) (lendG γ ks) a w := by
  have hinj := lend_inj h hnd hl hB
  have hle := lend_le h hinj hl hB
  have hinjN : Inj (nm (bn γ ks)) (0 + B.length) := fun i j hi hj e => hinj i j (by omega) (by omega) (by unfold nm at e; omega)
  have hs : ∀ i, i < ks.length → (look σ.box (kn ks i)).isSome := fun i hi => by
    have := (hB.at (List.getElem?_eq_getElem (show i < B.length by omega))).1
    rw [Nat.zero_add] at this
    rw [this]; rfl
  have hgb : ∀ i, i < ks.length → (lendG γ ks).bx (nm (bn γ ks) i) = γ.bx (kn ks i) := fun i hi => by
    show bn γ ks (un γ ks (nm (bn γ ks) i)) = _
    rw [un_at hinj hi]; rfl
  have hgr : ∀ i o, i < ks.length → (lendG γ ks).rw (.b (nm (bn γ ks) i) o) = γ.rw (.b (kn ks i) o) := fun i o hi => by
    show γ.rw (.b (kn ks (un γ ks (nm (bn γ ks) i))) o) = _
    rw [un_at hinj hi]
  have hown : ∀ L e, lookL (nOwn (nm (bn γ ks)) 0 B) L = some e → ∃ i o, i < ks.length ∧ L = .b (nm (bn γ ks) i) o ∧ lookL σ.own (.b (kn ks i) o) = some e := fun L e hL => by
    obtain ⟨i, b, o, hi, rfl, ho⟩ := nOwn_inv hL
    have := (hB.at hi).2
    rw [Nat.zero_add] at this ⊢
    exact ⟨i, o, by rw [← hl]; exact (List.getElem?_eq_some_iff.1 hi).1, rfl, this.at ho⟩
  have hsome : ∀ L, (lookL (nOwn (nm (bn γ ks)) 0 B) L).isSome → ∃ i o, i < ks.length ∧ L = .b (nm (bn γ ks) i) o ∧ (lookL σ.own (.b (kn ks i) o)).isSome := fun L hL => by
    obtain ⟨e, he⟩ := Option.isSome_iff_exists.1 hL
    obtain ⟨i, o, h0, h1, h2⟩ := hown L e he
    exact ⟨i, o, h0, h1, by rw [h2]; rfl⟩
  have hboxk : ∀ j, (look (nBoxes (nm (bn γ ks)) 0 B) j).isSome → ∃ i, i < ks.length ∧ j = nm (bn γ ks) i := fun j hj => by
    obtain ⟨cs, hcs⟩ := Option.isSome_iff_exists.1 hj
    obtain ⟨i, b, hi, rfl, _⟩ := nBoxes_inv hcs
    exact ⟨i, by rw [← hl]; exact (List.getElem?_eq_some_iff.1 hi).1, by rw [Nat.zero_add]⟩
  have hav : ∀ i o, i < ks.length → (boxesSt [] (nm (bn γ ks)) B (lendE σ ks γ a w)).avAt (.b (nm (bn γ ks) i) o) = σ.avAt (.b (kn ks i) o) := fun i o hi => by
    have hi' : B[i]? = some B[i] := List.getElem?_eq_getElem (show i < B.length by omega)
    have h1 := nBoxes_at (μ := nm (bn γ ks)) (i := 0) (j := i) hinjN hi'
    have h2 := (hB.at hi').1
    rw [Nat.zero_add] at h1 h2
    show ((look (nBoxes (nm (bn γ ks)) 0 B) (nm (bn γ ks) i)).bind (·[o]?)).map PV.av = ((look σ.box (kn ks i)).bind (·[o]?)).map PV.av
    rw [h1, h2]
  refine ⟨h.defers, h.size, h.below, h.r0, fun t x hx => (by cases hx), fun j cs1 hj => ?_, fun j j' hj hj' he => ?_, fun L e sz hL => ?_, fun L L' g hL hL' hg hg' => ?_, fun L j g hL hj hg => ?_, ⟨h.exth, fun _ _ _ _ => rfl, fun _ _ _ _ _ _ => rfl⟩, fun b hb => ?_, h.small, fun j hj _ => ?_, h.laid, ⟨σ.ext.rmono hle h.extr, fun t x hx => ((h.slots t x hx).1).mono hle (fun _ _ => rfl), fun j cs1 hj hk1 => ?_⟩⟩
  · obtain ⟨i, b, hi, rfl, rfl⟩ := nBoxes_inv hj
    have hil : i < ks.length := by rw [← hl]; exact (List.getElem?_eq_some_iff.1 hi).1
    have hbx := (hB.at hi).1
    rw [Nat.zero_add] at hbx ⊢
    obtain ⟨us, ty, h1, h2, h3⟩ := h.boxes _ _ hbx
    exact ⟨us, ty, by rw [hgb i hil]; exact h1, by rw [hgb i hil]; exact h2, h3.mono hle⟩
  · obtain ⟨i, hi, rfl⟩ := hboxk j hj
    obtain ⟨i', hi', rfl⟩ := hboxk j' hj'
    rw [hgb i hi, hgb i' hi'] at he
    have := kn_inj hnd i i' hi hi' (h.boxinj _ _ (hs i hi) (hs i' hi') he)
    rw [this]
  · obtain ⟨i, o, hi, rfl, h1⟩ := hown L (e, sz) hL
    obtain ⟨rows, v, h2, h3, h4⟩ := h.owns _ e sz h1
    refine ⟨rows, v, (hav i o hi).trans h2, ?_, by rw [hgr i o hi]; exact h4⟩
    show w.cell? ⟨(lendG γ ks).bx (nm (bn γ ks) i), o, none⟩ = some v
    rw [hgb i hi]
    exact h3
  · obtain ⟨i, o, hi, rfl, h1⟩ := hsome L hL
    obtain ⟨i', o', hi', rfl, h2⟩ := hsome L' hL'
    rw [hgr i o hi] at hg
    rw [hgr i' o' hi'] at hg'
    have := h.rowinj _ _ g h1 h2 hg hg'
    injection this with e1 e2
    have := kn_inj hnd i i' hi hi' e1
    subst this; subst e2; rfl
  · obtain ⟨i, o, hi, rfl, h1⟩ := hsome L hL
    obtain ⟨i', hi', rfl⟩ := hboxk j hj
    rw [hgr i o hi] at hg
    rw [hgb i' hi']
    exact h.rowbox _ _ g h1 (hs i' hi') hg
  · have hx : (σ.ext.foot b ∨ σ.ext.froz b) ∨ (∃ j cs, j ∉ ks ∧ look σ.box j = some cs ∧ b = γ.bx j) ∨ ∃ L e, lookL σ.own L = some e ∧ atK ks L = false ∧ γ.rw L = some b := by
      rcases hb with (hb | hb) | (hb | hb)
      · exact .inl (.inl hb)
      · exact .inr (.inl hb)
      · exact .inl (.inr hb)
      · exact .inr (.inr hb)
    rcases hx with hx | ⟨j, cs1, hj, hk1, rfl⟩ | ⟨L, e, h1, h2, h3⟩
    · obtain ⟨g1, g2, g3, g4⟩ := h.extf b hx
      refine ⟨g1, g2, fun j hj => ?_, fun L hL => ?_⟩
      · obtain ⟨i, hi, rfl⟩ := hboxk j hj
        rw [hgb i hi]; exact g3 _ (hs i hi)
      · obtain ⟨i, o, hi, rfl, h1⟩ := hsome L hL
        rw [hgr i o hi]; exact g4 _ h1
    · have hjs : (look σ.box j).isSome := by rw [hk1]; rfl
      obtain ⟨g1, g2⟩ := h.box_lt hjs
      refine ⟨g2, g1, fun j' hj' e => ?_, fun L hL e => ?_⟩
      · obtain ⟨i, hi, rfl⟩ := hboxk j' hj'
        rw [hgb i hi] at e
        exact hj (by rw [← h.boxinj _ _ (hs i hi) hjs e]; exact kn_mem hi)
      · obtain ⟨i, o, hi, rfl, h1⟩ := hsome L hL
        rw [hgr i o hi] at e
        exact h.rowbox _ j (γ.bx j) h1 hjs e rfl
    · have hLs : (lookL σ.own L).isSome := by rw [h1]; rfl
      obtain ⟨g1, g2⟩ := h.row_lt hLs h3
      refine ⟨g2, g1, fun j' hj' e => ?_, fun M hM e => ?_⟩
      · obtain ⟨i, hi, rfl⟩ := hboxk j' hj'
        rw [hgb i hi] at e
        exact h.rowbox L _ b hLs (hs i hi) h3 e.symm
      · obtain ⟨i, o, hi, rfl, h4⟩ := hsome M hM
        rw [hgr i o hi] at e
        have := h.rowinj L _ b hLs h4 h3 e
        subst this
        rw [atK_kn hi] at h2; cases h2
  · obtain ⟨i, hi, rfl⟩ := hboxk j hj
    rw [hgb i hi]
    show γ.bx (kn ks i) = nm (bn γ ks) i - 1000000
    unfold nm bn
    omega
  · obtain ⟨us, ty, h1, _, h3⟩ := h.boxes j cs1 hk1
    exact ⟨us, ty, h1, h3.mono hle⟩
/-- Back in the caller. -/
noncomputable def backG (γ γf : Gh) (ks : List Nat) : Gh := { bx := γ.bx, rw := fun L => match L with | .b j o => (by classical exact if h : ∃ i, i < ks.length ∧ kn ks i = j then γf.rw (.b (nm (bn γ ks) h.choose) o) else γ.rw (.b j o)) | .s t => γ.rw (.s t) }
theorem backG_in {γf : Gh} {ks : List Nat} (hnd : ks.Nodup) {i o : Nat} (hi : i < ks.length) : (backG γ γf ks).rw (.b (kn ks i) o) = γf.rw (.b (nm (bn γ ks) i) o) := by
  have h : ∃ i', i' < ks.length ∧ kn ks i' = kn ks i := ⟨i, hi, rfl⟩
  show (if h : ∃ i', i' < ks.length ∧ kn ks i' = kn ks i then γf.rw (.b (nm (bn γ ks) h.choose) o) else γ.rw (.b (kn ks i) o)) = _
  rw [dif_pos h]
  have := kn_inj hnd _ _ h.choose_spec.1 hi h.choose_spec.2
  rw [this]
theorem backG_out {γf : Gh} {ks : List Nat} {L : Loc} (h : atK ks L = false) : (backG γ γf ks).rw L = γ.rw L := by
  cases L with
  | s t => rfl
  | b j o =>
    have hn : ¬ ∃ i, i < ks.length ∧ kn ks i = j := by
      rintro ⟨i, hi, rfl⟩
      rw [atK_kn hi] at h; cases h
    exact dif_neg hn
section
variable {w' : World} {γf : Gh} {ks : List Nat} {B B' : List BX}
theorem back_bx (hinj : Inj (bn γ ks) ks.length) (hl : B'.length = ks.length) (hf : Rel F (boxesSt [] (nm (bn γ ks)) B' (lendE σ ks γ a w)) γf a w') {i : Nat} (hi : i < ks.length) : (look (nBoxes (nm (bn γ ks)) 0 B') (nm (bn γ ks) i)).isSome ∧ γf.bx (nm (bn γ ks) i) = γ.bx (kn ks i) := by
  have hinjN : Inj (nm (bn γ ks)) (0 + B'.length) := fun i j hi hj e => hinj i j (by omega) (by omega) (by unfold nm at e; omega)
  have h1 := nBoxes_at (μ := nm (bn γ ks)) (i := 0) (j := i) hinjN (List.getElem?_eq_getElem (show i < B'.length by omega))
  rw [Nat.zero_add] at h1
  have h2 : (look (nBoxes (nm (bn γ ks)) 0 B') (nm (bn γ ks) i)).isSome := by rw [h1]; rfl
  refine ⟨h2, ?_⟩
  have := hf.dyn (nm (bn γ ks) i) h2 (by unfold nm; omega)
  rw [this]
  unfold nm bn
  omega
theorem back_le (hnd : ks.Nodup) (hinj : Inj (bn γ ks) ks.length) (hl : B'.length = ks.length) (hf : Rel F (boxesSt [] (nm (bn γ ks)) B' (lendE σ ks γ a w)) γf a w') :
    ∀ p v, rdr F.R0 F.w0.heap.size (boxesSt [] (nm (bn γ ks)) B' (lendE σ ks γ a w)) γf w' p = some v → rdr F.R0 F.w0.heap.size (mSt σ ks B') (backG γ γf ks) w' p = some v := by
  have hinjN : Inj (nm (bn γ ks)) (0 + B'.length) := fun i j hi hj e => hinj i j (by omega) (by omega) (by unfold nm at e; omega)
  refine rdr_le fun p v hb hm hc => ⟨fun hm' => hm ?_, hc⟩
  rcases hm' with ⟨j, cs1, hj, hp⟩ | ⟨L, e, sz, rows, h1, h2, h3, h4⟩ | hx
  · by_cases hjk : j ∈ ks
    · obtain ⟨i, hi, rfl⟩ := mem_kn hjk
      obtain ⟨cs2, hcs⟩ := Option.isSome_iff_exists.1 (back_bx hinj hl hf hi).1
      exact .inl ⟨nm (bn γ ks) i, cs2, hcs, by rw [(back_bx hinj hl hf hi).2]; exact hp⟩
    · rw [mSt_box_out hl hjk] at hj
      exact .inr (.inr (.inl (.inr ⟨j, cs1, hjk, hj, hp⟩)))
  · cases hL : atK ks L with
    | true =>
      obtain ⟨i, o, hi, rfl⟩ := atK_inv hL
      have hb' : B'[i]? = some B'[i] := List.getElem?_eq_getElem (show i < B'.length by omega)
      rw [mSt_own_in hnd hl hb'] at h1
      rw [backG_in hnd hi] at h3
      refine .inr (.inl ⟨.b (nm (bn γ ks) i) o, e, sz, rows, ?_, ?_, h3, h4⟩)
      · have := nOwn_at (μ := nm (bn γ ks)) (i := 0) (j := i) (o := o) hinjN hb'
        rw [Nat.zero_add] at this
        exact this.trans h1
      · have h5 := nBoxes_at (μ := nm (bn γ ks)) (i := 0) (j := i) hinjN hb'
        rw [Nat.zero_add] at h5
        have h2' : ((look (mSt σ ks B').box (kn ks i)).bind (·[o]?)).map PV.av = some (.sl sz rows) := h2
        rw [mSt_box_in hnd hl hb'] at h2'
        show ((look (nBoxes (nm (bn γ ks)) 0 B') (nm (bn γ ks) i)).bind (·[o]?)).map PV.av = _
        rw [h5]; exact h2'
    | false =>
      rw [mSt_own_out hl hL] at h1
      rw [mSt_av_out hl hL] at h2
      rw [backG_out hL] at h3
      exact .inr (.inr (.inr (.inr ⟨L, e, sz, rows, h1, hL, h2, h3, h4⟩)))
  · rcases hx with hx | hx
    · exact .inr (.inr (.inl (.inl hx)))
    · exact .inr (.inr (.inr (.inl hx)))
/-- The boxes come back. -/
theorem Rel.back (h : Rel F σ γ a w) (hnd : ks.Nodup) (hl0 : B.length = ks.length) (hB : RetB (kn ks) σ 0 B) (hl : B'.length = ks.length) (hf : Rel F (boxesSt [] (nm (bn γ ks)) B' (lendE σ ks γ a w)) γf a w') :
    Rel F (mSt σ ks B') (backG γ γf ks) a w' := by
  have hinj := lend_inj h hnd hl0 hB
  have hle := back_le hnd hinj hl hf
  have hinjN : Inj (nm (bn γ ks)) (0 + B'.length) := fun i j hi hj e => hinj i j (by omega) (by omega) (by unfold nm at e; omega)
  have hs : ∀ i, i < ks.length → (look σ.box (kn ks i)).isSome := fun i hi => by
    have := (hB.at (List.getElem?_eq_getElem (show i < B.length by omega))).1
    rw [Nat.zero_add] at this
    rw [this]; rfl
  obtain ⟨x1, x2, x3⟩ := hf.exth
  obtain ⟨y1, y2, y3⟩ := hf.extr
  have hbs : ∀ j, (look (mSt σ ks B').box j).isSome → (look σ.box j).isSome := fun j hj => by
    by_cases hjk : j ∈ ks
    · obtain ⟨i, hi, rfl⟩ := mem_kn hjk; exact hs i hi
    · rw [mSt_box_out hl hjk] at hj; exact hj
  have hat : ∀ i, i < ks.length → B'[i]? = some (B'.getD i ⟨[], []⟩) := fun i hi => by
    rw [List.getD_eq_getElem?_getD, List.getElem?_eq_getElem (show i < B'.length by omega)]; rfl
  have hin : ∀ i o, i < ks.length → (lookL (mSt σ ks B').own (.b (kn ks i) o)).isSome → (lookL (nOwn (nm (bn γ ks)) 0 B') (.b (nm (bn γ ks) i) o)).isSome := fun i o hi ho => by
    rw [mSt_own_in hnd hl (hat i hi)] at ho
    have := nOwn_at (μ := nm (bn γ ks)) (i := 0) (j := i) (o := o) hinjN (hat i hi)
    rw [Nat.zero_add] at this
    rw [this]; exact ho
  refine ⟨h.defers, h.size, hf.below, h.r0, fun t x hx => ?_, fun j cs1 hj => ?_, fun j j' hj hj' he => h.boxinj j j' (hbs j hj) (hbs j' hj') he, fun L e sz hL => ?_, fun L L' g hL hL' hg hg' => ?_, fun L j g hL hj hg => ?_, x1, fun b hb => ?_, h.small, fun j hj hd => h.dyn j (hbs j hj) hd, h.laid, σ.ext.rmono hle y1⟩
  · refine ⟨(y2 t x hx).mono hle (fun _ _ => rfl), fun i hi => ?_⟩
    have hsi := (h.slots t x hx).2 i hi
    by_cases hik : i ∈ ks
    · obtain ⟨q, hq, rfl⟩ := mem_kn hik
      rw [mSt_box_in hnd hl (hat q hq)]; rfl
    · rw [mSt_box_out hl hik]; exact hsi
  · by_cases hjk : j ∈ ks
    · obtain ⟨i, hi, rfl⟩ := mem_kn hjk
      rw [mSt_box_in hnd hl (hat i hi)] at hj
      cases hj
      have h5 := nBoxes_at (μ := nm (bn γ ks)) (i := 0) (j := i) hinjN (hat i hi)
      rw [Nat.zero_add] at h5
      obtain ⟨us, ty, h1, h2, h3⟩ := hf.boxes (nm (bn γ ks) i) _ h5
      rw [(back_bx hinj hl hf hi).2] at h1 h2
      exact ⟨us, ty, h1, h2, h3.mono hle⟩
    · rw [mSt_box_out hl hjk] at hj
      obtain ⟨us, ty, h1, h2⟩ := y3 j cs1 hjk hj
      exact ⟨us, ty, (x2 j cs1 hjk hj).trans h1, (h.box_lt (k := j) (by rw [hj]; rfl)).2, h2.mono hle⟩
  · cases hLk : atK ks L with
    | true =>
      obtain ⟨i, o, hi, rfl⟩ := atK_inv hLk
      rw [mSt_own_in hnd hl (hat i hi)] at hL
      have h6 := nOwn_at (μ := nm (bn γ ks)) (i := 0) (j := i) (o := o) hinjN (hat i hi)
      rw [Nat.zero_add] at h6
      obtain ⟨rows, v, h1, h2, h3⟩ := hf.owns (.b (nm (bn γ ks) i) o) e sz (h6.trans hL)
      have h5 := nBoxes_at (μ := nm (bn γ ks)) (i := 0) (j := i) hinjN (hat i hi)
      rw [Nat.zero_add] at h5
      refine ⟨rows, v, ?_, ?_, by rw [backG_in hnd hi]; exact h3⟩
      · have h1' : ((look (nBoxes (nm (bn γ ks)) 0 B') (nm (bn γ ks) i)).bind (·[o]?)).map PV.av = some (.sl sz rows) := h1
        rw [h5] at h1'
        show ((look (mSt σ ks B').box (kn ks i)).bind (·[o]?)).map PV.av = _
        rw [mSt_box_in hnd hl (hat i hi)]; exact h1'
      · have h4 : w'.cell? ⟨γf.bx (nm (bn γ ks) i), o, none⟩ = some v := h2
        rw [(back_bx hinj hl hf hi).2] at h4
        exact h4
    | false =>
      rw [mSt_own_out hl hLk] at hL
      obtain ⟨rows, v, h1, h2, h3⟩ := h.owns L e sz hL
      refine ⟨rows, v, by rw [mSt_av_out hl hLk]; exact h1, ?_, by rw [backG_out hLk]; exact h3.keep fun g hg => x3 L (e, sz) g hL hLk hg⟩
      cases L with
      | s t => exact h2
      | b j o =>
        have hj : ∃ cs1, look σ.box j = some cs1 := by
          cases hq : look σ.box j with
          | none => simp [St.avAt, hq] at h1
          | some c => exact ⟨c, rfl⟩
        obtain ⟨cs1, hj⟩ := hj
        have hne : j ∉ ks := by simpa [atK] using hLk
        exact (World.cell?_of_block (w := w) (a := ⟨γ.bx j, o, none⟩) (x2 j cs1 hne hj)).trans h2
  · cases hLk : atK ks L <;> cases hLk' : atK ks L'
    · rw [mSt_own_out hl hLk] at hL
      rw [mSt_own_out hl hLk'] at hL'
      rw [backG_out hLk] at hg
      rw [backG_out hLk'] at hg'
      exact h.rowinj L L' g hL hL' hg hg'
    · obtain ⟨i, o, hi, rfl⟩ := atK_inv hLk'
      rw [mSt_own_out hl hLk] at hL
      rw [backG_out hLk] at hg
      rw [backG_in hnd hi] at hg'
      obtain ⟨e, he⟩ := Option.isSome_iff_exists.1 hL
      exact absurd hg' ((hf.extf g (.inr (.inr ⟨L, e, he, hLk, hg⟩))).2.2.2 _ (hin i o hi hL'))
    · obtain ⟨i, o, hi, rfl⟩ := atK_inv hLk
      rw [mSt_own_out hl hLk'] at hL'
      rw [backG_out hLk'] at hg'
      rw [backG_in hnd hi] at hg
      obtain ⟨e, he⟩ := Option.isSome_iff_exists.1 hL'
      exact absurd hg ((hf.extf g (.inr (.inr ⟨L', e, he, hLk', hg'⟩))).2.2.2 _ (hin i o hi hL))
    · obtain ⟨i, o, hi, rfl⟩ := atK_inv hLk
      obtain ⟨i', o', hi', rfl⟩ := atK_inv hLk'
      rw [backG_in hnd hi] at hg
      rw [backG_in hnd hi'] at hg'
      have := hf.rowinj _ _ g (hin i o hi hL) (hin i' o' hi' hL') hg hg'
      injection this with e1 e2
      have := hinj i i' hi hi' (by unfold nm at e1; omega)
      subst this; subst e2; rfl
  · have hjs := hbs j hj
    cases hLk : atK ks L with
    | true =>
      obtain ⟨i, o, hi, rfl⟩ := atK_inv hLk
      rw [backG_in hnd hi] at hg
      by_cases hjk : j ∈ ks
      · obtain ⟨q, hq, rfl⟩ := mem_kn hjk
        obtain ⟨b1, b2⟩ := back_bx hinj hl hf hq
        have := hf.rowbox _ _ g (hin i o hi hL) b1 hg
        rw [b2] at this
        exact this
      · obtain ⟨cs1, hcs⟩ := Option.isSome_iff_exists.1 hjs
        have := (hf.extf (γ.bx j) (.inl (.inr ⟨j, cs1, hjk, hcs, rfl⟩))).2.2.2 _ (hin i o hi hL)
        intro e
        exact this (by rw [← show g = γ.bx j from e]; exact hg)
    | false =>
      rw [mSt_own_out hl hLk] at hL
      rw [backG_out hLk] at hg
      exact h.rowbox L j g hL hjs hg
  · obtain ⟨g1, g2, g3, g4⟩ := hf.extf b (hb.elim (fun h => .inl (.inl h)) (fun h => .inr (.inl h)))
    refine ⟨g1, g2, fun j hj => (h.extf b hb).2.2.1 j (hbs j hj), fun L hL => ?_⟩
    cases hLk : atK ks L with
    | true =>
      obtain ⟨i, o, hi, rfl⟩ := atK_inv hLk
      rw [backG_in hnd hi]
      exact g4 _ (hin i o hi hL)
    | false =>
      rw [mSt_own_out hl hLk] at hL
      rw [backG_out hLk]
      exact (h.extf b hb).2.2.2 L hL
end
theorem reps_get {R : Reader} {bx : Nat → Nat} : ∀ {xs : List AV} {us : List Value}, Reps R σ bx xs us → us.length = xs.length ∧ ∀ (i : Nat) (x : AV), xs[i]? = some x → ∃ u, us[i]? = some u ∧ RepA R bx x u
  | [], us, h => by cases h; exact ⟨rfl, fun i x hx => by simp at hx⟩
  | x :: xs, us, h => by
    cases h with
    | cons h1 _ h3 =>
      obtain ⟨h4, h5⟩ := reps_get h3
      refine ⟨by simp [h4], fun i y hy => ?_⟩
      cases i with
      | zero => simp at hy; subst hy; exact ⟨_, rfl, h1⟩
      | succ i => simpa using h5 i y (by simpa using hy)
end
end Av
end Go.Proofs.YtcloigoajohppaaGreatDoor
/- A function that has a piece of what its caller holds beside its boxes (a map, a builder) for its own while it runs. Generic. -/
namespace Go.Proofs.YtcloigoajohppaaGreatDoor
open Go.RowKit
namespace Av

def extSt (sl : List (Nat × AV)) (E : Ext) : St := ⟨sl, [], [], E⟩
/-- Called with such arguments while X is lent, the function returns this, and X is one of X'. -/
structure FnX {ι : Type} (P : Program) (C : World → Prop) (f : FuncId) (args : List AV) (X : Ext) (res : AV) (X' : ι → Ext) : Prop where
  enters : Enters P f
  calls : ∀ (F : Fr) (E : Ext) (γ : Gh) (a : Act) (w : World) (us : List Value), (∀ w0, E.laid w0 → C w0) → Rel F (extSt [] (E.and X)) γ a w → RepAL (rdr F.R0 F.w0.heap.size (extSt [] (E.and X)) γ w) args us →
    Calls P f us.toArray w fun e w' => ∃ u γ' i, e = .returned u ∧ Rel F (extSt [] (E.and (X' i))) γ' a w' ∧ res.refs = [] ∧ RepA (rdr F.R0 F.w0.heap.size (extSt [] (E.and (X' i))) γ' w') (fun _ => 0) res u
def RetX {ι : Type} (P : Program) (rs : Array ResultVar) (σ : St) (res : AV) (E : ι → Ext) : Prop :=
  (retAll P σ rs.toList fun cs => res = match cs with | [c] => c.av | cs => .tup cs) ∧ ∃ i, σ.ext = E i
section
variable {P : Program}
theorem fn_okX {ι : Type} {C : World → Prop} {f : FuncId} {fn : Func} {c : Code} {args : List AV} {X : Ext} {X' : ι → Ext} {res : AV} (hf : P.funcs[f]? = some fn) (hname : (fn.name == "runtime.NumGoroutine") = false) (hb : fn.body = some c) (hn : args.length ≤ fn.ntmps ∧ fn.ntmps ≤ 1000000)
    (h : ∀ (F : Fr) (E : Ext), F.n = fn.ntmps → (∀ w0, E.laid w0 → C w0) → AWp P F c (fun x σ => (match x with | .exit _ => False | _ => True) ∧ RetX P fn.results σ res (fun i => E.and (X' i))) (extSt (args.zipIdx.map fun x => (x.2, x.1)) (E.and X))) : FnX P C f args X res X' := by
  refine ⟨⟨fn, c, hf, hname, hb⟩, fun F0 E γ a0 w us hC hr0 hus => calls_of_wp hf hb ?_⟩
  have hlen := hus.length
  have hrel : Rel { F0 with n := fn.ntmps } (extSt (args.zipIdx.map fun x => (x.2, x.1)) (E.and X)) γ { tmps := us.toArray ++ Array.replicate (fn.ntmps - us.toArray.size) undef, defers := [] } w := by
    refine Rel.reAct (sl := []) (μ := fun _ => 0) (B := []) hr0 rfl (by simp; omega) hn.2 fun t x hx => ?_
    have hx' : args[t]? = some x := by
      rw [look_start] at hx
      simpa using hx
    obtain ⟨u, h1, h2, h3⟩ := hus.get hx'
    have ht : t < us.length := (List.getElem?_eq_some_iff.1 h1).1
    refine ⟨?_, fun k hk => by rw [h3] at hk; cases hk⟩
    have hv : (us.toArray ++ Array.replicate (fn.ntmps - us.toArray.size) undef).getD t undef = u := by
      rw [Array.getD_eq_getD_getElem?, Array.getElem?_append_left (by simpa using ht)]
      simp [h1]
    rw [hv]
    exact h2.free h3
  refine wp_mono (h _ E rfl hC γ _ w hrel) ?_
  rintro e a' w' ⟨x, σ', γ', rfl, ⟨hx, hret, i, hext⟩, hr'⟩
  have hsub : σ'.Sub (extSt [] (E.and (X' i))) := ⟨fun t x hx => (by cases hx), fun k cs1 hk => (by cases hk), fun L e hL => (by cases hL), fun t x hx => (by cases hx), hext.symm⟩
  have hr2 := hr'.sub hsub
  have hle : ∀ p v, rdr F0.R0 F0.w0.heap.size σ' γ' w' p = some v → rdr F0.R0 F0.w0.heap.size (extSt [] (E.and (X' i))) γ' w' p = some v := by
    refine rdr_le fun p v hB hm hc => ⟨fun hm' => ?_, hc⟩
    rcases hm' with ⟨j, cs1, hj, hp⟩ | ⟨L, e, sz, rows, h1, h2, h3, h4⟩ | hx
    · cases hj
    · cases h1
    · exact hm (.inr (.inr (by rw [hext]; exact hx)))
  obtain ⟨cvs, vs, h1, h2, h3⟩ := retAll_ok hr' hret
  have hrun : (results fn a'.tmps).run P w' = .ok (if h : vs.toArray.size = 1 then vs.toArray[0] else .tuple vs.toArray) w' := by
    rw [results_eq, Array.mapM_eq_mapM_toList, Sem.run_bind, Sem.run_map, h3]
    rfl
  have hback : Rel F0 (extSt [] (E.and (X' i))) γ' a0 w' := by
    have := Rel.reAct (n := F0.n) (sl := []) (sl' := []) (μ := fun _ => 0) (B := []) (a' := a0) hr2 hr0.defers hr0.size hr0.small (fun t x hx => by cases hx)
    exact this
  have hres : ∀ v, res.refs = [] ∧ RepA (rdr F0.R0 F0.w0.heap.size (extSt [] (E.and (X' i))) γ' w') (fun _ => 0) res v → (results fn a'.tmps).run P w' = .ok v w' → bodyPost P fn (fun e w' => ∃ u γ' i, e = .returned u ∧ Rel F0 (extSt [] (E.and (X' i))) γ' a0 w' ∧ res.refs = [] ∧ RepA (rdr F0.R0 F0.w0.heap.size (extSt [] (E.and (X' i))) γ' w') (fun _ => 0) res u) x.exit_ a' w' := fun v hv hrun => by
    cases x with
    | normal => exact ⟨hr'.defers, v, hrun, v, γ', i, rfl, hback, hv.1, hv.2⟩
    | exit id => exact hx.elim
    | ret => exact ⟨hr'.defers, v, hrun, v, γ', i, rfl, hback, hv.1, hv.2⟩
  refine hres _ ?_ hrun
  have hmono : ∀ {c : CV} {u : Value}, RepC (rdr F0.R0 F0.w0.heap.size σ' γ' w') c u → RepA (rdr F0.R0 F0.w0.heap.size (extSt [] (E.and (X' i))) γ' w') (fun _ => 0) c.av u := fun hc => (hc.mono hle).av
  subst h1
  cases h2 with
  | nil => exact ⟨rfl, [], by simp, .nil⟩
  | cons hc ht =>
    cases ht with
    | nil =>
      refine ⟨?_, by simpa using hmono hc⟩
      rename_i c _
      cases c with
      | c p => cases p <;> rfl
      | g xs => rfl
    | cons hc' ht' =>
      exact ⟨rfl, _, by simp, .cons (hc.mono hle) (.cons (hc'.mono hle) (ht'.mono hle))⟩
end
section
variable {P : Program} {F : Fr} {σ : St} {γ : Gh} {a : Act} {w : World} {A X X' : Ext}
/-- What the callee holds of its caller's frame, but for X. -/
def lendA (A : Ext) (σ : St) (γ : Gh) (a : Act) (w : World) : Ext := lendE { σ with ext := A } [] γ a w
theorem Rel.lendX (h : Rel F σ γ a w) (hE : σ.ext = A.and X) : Rel F (extSt [] ((lendA A σ γ a w).and X)) (lendG γ []) a w := by
  have h0 : Rel F (extSt [] (lendE σ [] γ a w)) (lendG γ []) a w := h.lend (B := []) (List.nodup_nil) rfl trivial
  have hx := h.exth
  rw [hE] at hx
  obtain ⟨h1, h2, h3⟩ := hx
  have hall : ∀ b, X.foot b ∨ X.froz b → σ.ext.foot b ∨ σ.ext.froz b := fun b hb => by
    rw [hE]; exact hb.elim (fun h => .inl (.inr h)) (fun h => .inr (.inr h))
  have ht : Turn (lendE σ [] γ a w) w w ((lendA A σ γ a w).and X) := by
    refine Turn.same ⟨⟨h1, fun _ _ _ _ => rfl, fun _ _ _ _ _ _ => rfl⟩, h2, fun b ha hb => ?_⟩ (fun b hb => ?_) (fun b hb => ?_) (fun w0 hl => ?_) (fun R hr => ?_) (fun p hp => ?_)
    · rcases ha with (ha | ⟨j, cs, _, hj, rfl⟩) | (ha | ⟨L, e, hL, _, hg⟩)
      · exact h3 b (.inl ha) hb
      · exact (h.extf _ (hall _ hb)).2.2.1 j (by rw [show look σ.box j = some cs from hj]; rfl) rfl
      · exact h3 b (.inr ha) hb
      · exact (h.extf _ (hall _ hb)).2.2.2 L (by rw [show lookL σ.own L = some e from hL]; rfl) hg
    · show (σ.ext.foot b ∨ _)
      rcases hb with (hb | hb) | hb
      · exact .inl (by rw [hE]; exact .inl hb)
      · exact .inr hb
      · exact .inl (by rw [hE]; exact .inr hb)
    · right
      show (σ.ext.froz b ∨ _)
      rcases hb with (hb | hb) | hb
      · exact .inl (by rw [hE]; exact .inl hb)
      · exact .inr hb
      · exact .inl (by rw [hE]; exact .inr hb)
    · have hl : σ.ext.laid w0 := hl
      rw [hE] at hl
      exact ⟨hl.1, hl.2⟩
    · obtain ⟨r1, r2, r3⟩ := hr
      rw [hE] at r1
      exact ⟨⟨r1.1, r2, r3⟩, r1.2⟩
    · left
      show (σ.ext.veil p ∨ _)
      rcases hp with (hp | hp) | hp
      · exact .inl (by rw [hE]; exact .inl hp)
      · refine .inr ?_
        obtain ⟨L, e, sz, rows, q1, q2, q3, q4, q5⟩ := hp
        exact ⟨L, e, sz, rows, q1, q2, (by cases L <;> exact q3), q4, q5⟩
      · exact .inl (by rw [hE]; exact .inr hp)
  exact h0.turn ht
theorem lendX_le (h : Rel F σ γ a w) (hE : σ.ext = A.and X) : ∀ p v, rdr F.R0 F.w0.heap.size σ γ w p = some v → rdr F.R0 F.w0.heap.size (extSt [] ((lendA A σ γ a w).and X)) (lendG γ []) w p = some v := by
  refine rdr_le fun p v hb hm hc => ⟨fun hm' => hm ?_, hc⟩
  rcases hm' with ⟨j, cs1, hj, hp⟩ | ⟨L, e, sz, rows, h1, h2, h3, h4⟩ | (hx | hx)
  · cases hj
  · cases h1
  · rcases hx with (hx | ⟨j, cs1, _, hj, hp⟩) | hx
    · exact .inr (.inr (.inl (by rw [hE]; exact .inl hx)))
    · exact .inl ⟨j, cs1, hj, hp⟩
    · exact .inr (.inr (.inl (by rw [hE]; exact .inr hx)))
  · rcases hx with (hx | ⟨L, e, sz, rows, h1, _, h2, h3, h4⟩) | hx
    · exact .inr (.inr (.inr (by rw [hE]; exact .inl hx)))
    · exact .inr (.inl ⟨L, e, sz, rows, h1, (by cases L <;> exact h2), h3, h4⟩)
    · exact .inr (.inr (.inr (by rw [hE]; exact .inr hx)))
section
variable {w' : World} {γf : Gh}
theorem backX_le : ∀ p v, rdr F.R0 F.w0.heap.size (extSt [] ((lendA A σ γ a w).and X')) γf w' p = some v → rdr F.R0 F.w0.heap.size { σ with ext := A.and X' } γ w' p = some v := by
  refine rdr_le fun p v hb hm hc => ⟨fun hm' => hm ?_, hc⟩
  rcases hm' with ⟨j, cs1, hj, hp⟩ | ⟨L, e, sz, rows, h1, h2, h3, h4⟩ | (hx | hx)
  · exact .inr (.inr (.inl (.inl (.inr ⟨j, cs1, by simp, hj, hp⟩))))
  · exact .inr (.inr (.inr (.inl (.inr ⟨L, e, sz, rows, h1, by cases L <;> rfl, (by cases L <;> exact h2), h3, h4⟩))))
  · exact .inr (.inr (.inl (hx.elim (fun h => .inl (.inl h)) .inr)))
  · exact .inr (.inr (.inr (hx.elim (fun h => .inl (.inl h)) .inr)))
theorem Rel.backX (h : Rel F σ γ a w) (hE : σ.ext = A.and X) (hf : Rel F (extSt [] ((lendA A σ γ a w).and X')) γf a w') : Rel F { σ with ext := A.and X' } γ a w' := by
  have hle := backX_le (F := F) (σ := σ) (γ := γ) (a := a) (w := w) (A := A) (X' := X') (w' := w') (γf := γf)
  obtain ⟨⟨x1, x2, x3⟩, x4, x5⟩ := hf.exth
  obtain ⟨⟨y1, y2, y3⟩, y4⟩ := hf.extr
  have hat : ∀ L, atK [] L = false := fun L => by cases L <;> rfl
  refine ⟨h.defers, h.size, hf.below, h.r0, fun t x hx => ⟨(y2 t x hx).mono hle (fun _ _ => rfl), (h.slots t x hx).2⟩, fun j cs hj => ?_, h.boxinj, fun L e sz hL => ?_, h.rowinj, h.rowbox, ⟨x1, x4, fun b hb => x5 b (hb.elim (fun h => .inl (.inl h)) (fun h => .inr (.inl h)))⟩, fun b hb => ?_, h.small, h.dyn, hf.laid, ⟨A.rmono hle y1, X'.rmono hle y4⟩⟩
  · obtain ⟨us, ty, h1, h2⟩ := y3 j cs (by simp) hj
    exact ⟨us, ty, (x2 j cs (by simp) hj).trans h1, (h.box_lt (k := j) (by rw [show look σ.box j = some cs from hj]; rfl)).2, h2.mono hle⟩
  · obtain ⟨rows, v, h1, h2, h3⟩ := h.owns L e sz hL
    refine ⟨rows, v, by cases L <;> exact h1, ?_, h3.keep fun g hg => x3 L (e, sz) g hL (hat L) hg⟩
    cases L with
    | s t => exact h2
    | b j o =>
      have hj : ∃ cs1, look σ.box j = some cs1 := by
        cases hq : look σ.box j with
        | none => simp [St.avAt, hq] at h1
        | some c => exact ⟨c, rfl⟩
      obtain ⟨cs1, hj⟩ := hj
      exact (World.cell?_of_block (w := w) (a := ⟨γ.bx j, o, none⟩) (x2 j cs1 (by simp) hj)).trans h2
  · obtain ⟨g1, g2, _, _⟩ := hf.extf b (hb.elim (fun h => .inl (h.elim (fun h => .inl (.inl h)) .inr)) (fun h => .inr (h.elim (fun h => .inl (.inl h)) .inr)))
    have hx : (A.foot b ∨ A.froz b) ∨ (X'.foot b ∨ X'.froz b) := by
      rcases hb with (hb | hb) | (hb | hb)
      · exact .inl (.inl hb)
      · exact .inr (.inl hb)
      · exact .inl (.inr hb)
      · exact .inr (.inr hb)
    rcases hx with hx | hx
    · have := h.extf b (by rw [hE]; exact hx.elim (fun h => .inl (.inl h)) (fun h => .inr (.inl h)))
      exact ⟨g1, g2, this.2.2.1, this.2.2.2⟩
    · refine ⟨g1, g2, fun j hj e => ?_, fun L hL e => ?_⟩
      · obtain ⟨cs, hcs⟩ := Option.isSome_iff_exists.1 hj
        exact x5 b (.inl (.inr ⟨j, cs, by simp, hcs, e.symm⟩)) hx
      · obtain ⟨e', he'⟩ := Option.isSome_iff_exists.1 hL
        exact x5 b (.inr (.inr ⟨L, e', he', hat L, e⟩)) hx
end
theorem repAL_of {R : Reader} : ∀ {A : List AV} {us : List Value}, us.length = A.length → (∀ (i : Nat) (m : AV) (u : Value), A[i]? = some m → us[i]? = some u → m.refs = [] ∧ RepA R (fun _ => 0) m u) → RepAL R A us
  | [], [], _, _ => .nil
  | [], _ :: _, h, _ => by cases h
  | _ :: _, [], h, _ => by cases h
  | m :: A, u :: us, hl, h => .cons (h 0 m u rfl rfl).2 (h 0 m u rfl rfl).1 (repAL_of (by simpa using hl) fun i m' u' h1 h2 => h (i + 1) m' u' (by simpa using h1) (by simpa using h2))
/-- A CALL THAT LENDS X. -/
theorem hand_callX {ι : Type} {X' : ι → Ext} {n : Nat} {o : Oper} {d : Nat} {K : St → Prop} {fid : FuncId} {args : Array Operand} {ats : Array TypeId} {avs : List AV} {C : World → Prop} {res : AV} (hc : FnX P C fid avs X res X') (A : Ext) (hE : σ.ext = A.and X) (hC : ∀ w0, A.laid w0 → C w0)
    (ho : o.op = .call { callee := .value (.func fid), args := args, argTypes := ats }) (hd : o.dst = some d) (hdn : d < n) (hA : evos (look σ.slot) args.toList = some avs) (hp : (avs.all fun x => x.refs.isEmpty) = true)
    (h : ∀ i, K (({ σ with ext := A.and (X' i) } : St).put d res)) : Hand P n σ o K := by
  refine hand_call hd fun F γ a w hF hr => ?_
  have henter := hc.enters
  have hle := lendX_le hr hE
  have hev := evos_ok hr (g := look σ.slot) (fun _ _ _ hy => hy) hA
  obtain ⟨g1, g2⟩ := reps_get hev
  refine ⟨fid, args.map a.eval, ?_, ?_⟩
  · have hf : a.eval (.func fid) = .func (.func fid) #[] #[] := rfl
    simp [execOp, ho, resolve, hf, Deferred.ofValue, invoke, run_callFunc henter]
  · have hargs : args.map a.eval = (args.toList.map a.eval).toArray := by
      obtain ⟨l⟩ := args
      simp
    rw [hargs]
    refine (hc.calls F (lendA A σ γ a w) (lendG γ []) a w _ hC (hr.lendX hE) (repAL_of g1 fun i m u hm hu => ?_)).mono ?_
    · obtain ⟨u', h1, h2⟩ := g2 i m hm
      rw [hu] at h1
      cases h1
      have hx : m.refs = [] := by simpa using List.all_eq_true.1 hp m (List.mem_of_getElem? hm)
      exact ⟨hx, (RepA.mono (x := m) hle (fun _ _ => rfl) h2).free hx⟩
    · rintro e w1 ⟨u, γf, i, rfl, hf, hres, hrep⟩
      exact ⟨u, _, γ, rfl, h i, (hr.backX hE hf).put (by rw [hF]; exact hdn) ((hrep.free hres).mono backX_le (fun _ _ => rfl)) (fun i hi => by rw [hres] at hi; cases hi)⟩
end
end Av
end Go.Proofs.YtcloigoajohppaaGreatDoor
/- Regions with stores by hand. Generic. -/
namespace Go.Proofs.YtcloigoajohppaaGreatDoor
open Go.RowKit
namespace Av
section
variable {P : Program} {n d : Nat} {σ : St} {o : Oper} {K : St → Prop}
/-- One operation: a store, or an append that is named, by hand. -/
def sopJ (P : Program) (n : Nat) (st : List Nat) (σ : St) (o : Oper) (K : St → Prop) : Prop :=
  match o.op, o.dst with
  | .store _ _ _, none => Hand P n σ o K
  | .call { callee := .builtin .append, .. }, some d => if st.contains (d + 1000000) = true then Hand P n σ o K else sop P n st σ o K
  | _, _ => sop P n st σ o K
def sopsJ (P : Program) (n : Nat) (st : List Nat) (ops : Array Oper) : List Oper → St → (St → Prop) → Prop
  | [], σ, K => K σ
  | o :: l, σ, K => match guardB ops (look σ.slot) o with
    | some true => sopJ P n st σ o fun σ' => sopsJ P n st ops l σ' K
    | some false => ∃ d, o.dst = some d ∧ d < n ∧ sopsJ P n st ops l (σ.put d (.v undef)) K
    | none => False
theorem sopsJ_go {st : List Nat} {ops : Array Oper} {l : List Oper} {K : St → Prop} (h : match guardB ops (look σ.slot) o with
    | some true => sopJ P n st σ o fun σ' => sopsJ P n st ops l σ' K
    | some false => ∃ d, o.dst = some d ∧ d < n ∧ sopsJ P n st ops l (σ.put d (.v undef)) K
    | none => False) : sopsJ P n st ops (o :: l) σ K := h
theorem sopsJ_end {st : List Nat} {ops : Array Oper} {K : St → Prop} (h : K σ) : sopsJ P n st ops [] σ K := h
theorem sopJ_ok {F : Fr} {st : List Nat} {γ : Gh} {a : Act} {w : World} (h : Rel F σ γ a w) (hs : sopJ P F.n st σ o K) (Q : Exit → Act → World → Prop) : o.wp P a w (fun a' w' => ∃ σ' γ', K σ' ∧ Rel F σ' γ' a' w') Q := by
  unfold sopJ at hs
  split at hs
  · exact hs F γ a w rfl h Q
  · split at hs
    · exact hs F γ a w rfl h Q
    · exact sop_ok h hs Q
  · exact sop_ok h hs Q
theorem sopsJ_ok {F : Fr} {st : List Nat} {ops : Array Oper} {Q : Exit → Act → World → Prop} (hQ : ∀ σ γ a w, K σ → Rel F σ γ a w → Q .normal a w) : ∀ (l : List Oper) (σ : St) (γ : Gh) (a : Act) (w : World), Rel F σ γ a w → sopsJ P F.n st ops l σ K → wpList P ops Q l a w
  | [], σ, γ, a, w, h, hs => hQ σ γ a w hs h
  | o :: l, σ, γ, a, w, h, hs => by
    unfold sopsJ at hs
    unfold wpList
    split at hs
    · rename_i hg
      rw [guard_ok h (fun j want t y _ _ hy => hy) hg, if_pos rfl]
      refine .inl (Oper.wp_mono (fun a2 w2 hst => ?_) (sopJ_ok h hs Q))
      obtain ⟨σ', γ', h1, h2⟩ := hst
      exact sopsJ_ok hQ l σ' γ' a2 w2 h2 h1
    · rename_i hg
      obtain ⟨d, hd, hdn, hs⟩ := hs
      rw [guard_ok h (fun j want t y _ _ hy => hy) hg, if_neg (by simp), hd]
      exact sopsJ_ok hQ l _ γ _ w (h.put hdn (x := .v undef) (u := undef) rfl (fun k hk => by cases hk)) hs
    · cases hs
/-- A region with stores by hand. -/
theorem awp_regionJ {F : Fr} {id : Nat} {l : List Oper} {Q : AX → St → Prop} (st : List Nat) (h : sopsJ P F.n st l.toArray l σ (Q .normal)) : AWp P F (Code.region id l.toArray false) Q σ := fun γ a w hr =>
  wp_region_lit (sopsJ_ok (fun σ' γ' a' w' hq hr' => ⟨.normal, σ', γ', rfl, hq, hr'⟩) l σ γ a w hr h)
end
end Av
end Go.Proofs.YtcloigoajohppaaGreatDoor
/- A call of a function whose contract asks something of the first world. Generic. -/
namespace Go.Proofs.YtcloigoajohppaaGreatDoor
open Go.RowKit
namespace Av
section
variable {P : Program}
theorem hand_fnL {C : World → Prop} {n d fid : Nat} {σ : St} {o : Oper} {K : St → Prop} {args : Array Operand} {ats : Array TypeId} {avs avs' : List AV} {res : FRes} (hst : ∀ {w w' : World}, Below w.heap.size w w' → C w → C w') (ho : o.op = .call { callee := .value (.func fid), args := args, argTypes := ats }) (hd : o.dst = some d) (hdn : d < n) (he : ∀ w0, σ.ext.laid w0 → C w0)
    (h3 : evos (look σ.slot) args.toList = some avs) (h4 : snaps (look σ.box) avs = some avs') (h5 : FnOKC P C fid avs' res) (h6 : (avs.all fun x => x.refs.isEmpty) = true) (h : K (σ.res d ⟨res.av, none, res.own⟩)) : Hand P n σ o K := by
  refine hand_call hd fun F γ a w hF hr => ?_
  have hC0 : C F.w0 := he _ hr.laid
  have hC : C w := hst hr.below hC0
  obtain ⟨henter, hcall⟩ := h5
  have gA := evos_ok hr (fun t y _ hy => hy) h3
  obtain ⟨_, g7⟩ := snaps_ok hr (fun _ _ h => h) gA h4
  have hf : a.eval (.func fid) = .func (.func fid) #[] #[] := rfl
  refine ⟨fid, args.map a.eval, ?_, ?_⟩
  · simp [execOp, ho, resolve, hf, Deferred.ofValue, invoke, run_callFunc henter]
  · have hargs : args.map a.eval = (args.toList.map a.eval).toArray := by
      obtain ⟨l⟩ := args
      simp
    rw [hargs]
    refine (hcall w _ hC (fun p v hp => hr.cell hp) _ (g7 h6)).mono ?_
    rintro e w1 ⟨u, rfl, hb, hres⟩
    obtain ⟨γ', _, hrel⟩ := hr.call hb (by rw [hF]; exact hdn) hres
    exact ⟨u, _, γ', rfl, h, hrel⟩
end
end Av
end Go.Proofs.YtcloigoajohppaaGreatDoor
namespace Go.Proofs.YtcloigoajohppaaGreatDoor
open Go.RowKit
namespace Av
section
variable {P : Program} {n d : Nat} {σ : St} {o : Oper} {bx0 : Nat → Option (List PV)}
theorem evo_ops {σ1 : St} {l : List Operand} (h1 : ∀ t y, Operand.tmp t ∈ l → look σ.slot t = some y → look σ1.slot t = some y) {x : Operand} {v : AV} (hm : x ∈ l) (hx : evo (look σ.slot) x = some v) : evo (look σ1.slot) x = some v := by
  cases x with
  | tmp t => exact h1 t v hm hx
  | _ => exact hx
theorem evos_ops {σ1 : St} : ∀ {l : List Operand} {vs : List AV}, (∀ t y, Operand.tmp t ∈ l → look σ.slot t = some y → look σ1.slot t = some y) → evos (look σ.slot) l = some vs → evos (look σ1.slot) l = some vs
  | [], _, _, h => h
  | x :: l, vs, h1, h => by
    unfold evos at h ⊢
    cases hx : evo (look σ.slot) x with
    | none => simp [hx] at h
    | some v =>
      cases hl : evos (look σ.slot) l with
      | none => simp [hx, hl] at h
      | some vs' =>
        rw [evo_ops (l := x :: l) h1 (List.mem_cons_self ..) hx, evos_ops (fun t y hm hy => h1 t y (List.mem_cons_of_mem _ hm) hy) hl]
        simpa [hx, hl] using h
/-- The place of a field behind a raw pointer, in a drawn head. -/
theorem handq_rawField {T : TypeId} {x : Operand} {i : Nat} {fs : Array Field} {f : Field} {m b off : Nat} (ho : o.op = .fieldAddr T x i) (hd : o.dst = some d) (hdn : d < n) (hu : P.underlying T = some (.struct fs)) (hf : fs[i]? = some f) (hn : (P.info? f.type).map (·.size) = some (m + 1))
    (hx : evo (look σ.slot) x = some (.v (.pointer (some ⟨b, off, none⟩)))) : HandQ P n bx0 σ o d ⟨.v (.pointer (some ⟨b, off + f.offset, none⟩)), none, none⟩ := by
  intro F σ1 γ a w hF hr hops hb hext Q
  have e := eval_raw hr (evo_ops hops (x := x) (by rw [ho]; simp [Op.operands]) hx)
  refine pure_ok hr hd (by rw [hF]; exact hdn) (u := .pointer (some ⟨b, off + f.offset, none⟩)) ?_ rfl (fun j hj => by cases hj)
  simp [execOp, ho, e, run_field_at (P := P) w T fs f i m b off hu hf hn]
/-- A call of a function that asks something of the first world and returns a value, in a drawn head. -/
theorem handq_fnL {C : World → Prop} {fid : Nat} {args : Array Operand} {ats : Array TypeId} {avs : List AV} {v : Value} (hst : ∀ {w w' : World}, Below w.heap.size w w' → C w → C w') (ho : o.op = .call { callee := .value (.func fid), args := args, argTypes := ats }) (hd : o.dst = some d) (hdn : d < n) (he : ∀ w0, σ.ext.laid w0 → C w0)
    (h3 : evos (look σ.slot) args.toList = some avs) (h6 : (avs.all fun x => x.refs.isEmpty) = true) (h4 : ∀ bx, snaps bx avs = some avs) (h5 : FnOKC P C fid avs ⟨.v v, none⟩) : HandQ P n bx0 σ o d ⟨.v v, none, none⟩ := by
  intro F σ1 γ a w hF hr hops hb hext Q
  have hC0 : C F.w0 := he _ (by rw [← hext]; exact hr.laid)
  have hC : C w := hst hr.below hC0
  obtain ⟨henter, hcall⟩ := h5
  have hmem : ∀ t, Operand.tmp t ∈ args.toList → Operand.tmp t ∈ o.op.operands.toList := fun t hm => by
    have hm2 : Operand.tmp t ∈ args := by simpa using hm
    rw [ho]
    simp [Op.operands, Call.operands, hm2]
  have h3' : evos (look σ1.slot) args.toList = some avs := evos_ops (fun t y hm hy => hops t y (hmem t hm) hy) h3
  have gA := evos_ok hr (fun t y _ hy => hy) h3'
  obtain ⟨_, g7⟩ := snaps_ok hr (fun _ _ h => h) gA (h4 _)
  have hf : a.eval (.func fid) = .func (.func fid) #[] #[] := rfl
  have hrun : (execOp a.eval o).run P w = .ok (.enter fid (args.map a.eval)) w := by
    simp [execOp, ho, resolve, hf, Deferred.ofValue, invoke, run_callFunc henter]
  unfold Oper.wp
  rw [hrun, Oper.upon_enter, hd]
  have hargs : args.map a.eval = (args.toList.map a.eval).toArray := by
    obtain ⟨l⟩ := args
    simp
  rw [hargs]
  refine (hcall w _ hC (fun p v hp => hr.cell hp) _ (g7 h6)).mono ?_
  rintro e w1 ⟨u, rfl, hbl, hres⟩
  obtain ⟨γ', hbx, hrel⟩ := hr.call hbl (by rw [hF]; exact hdn) hres
  refine ⟨γ', u, rfl, hbl, fun k _ => hbx k, hrel, fun g S _ hs => ?_⟩
  unfold src at hs
  rw [ho] at hs
  cases hs
end
end Av
end Go.Proofs.YtcloigoajohppaaGreatDoor
/- Operations by hand that only yield a value; pointers of a lent box as plain values. Generic. -/
namespace Go.Proofs.YtcloigoajohppaaGreatDoor
open Go.RowKit
namespace Av
section
variable {P : Program} {F : Fr} {σ : St} {γ : Gh} {a : Act} {w : World} {n d : Nat} {o : Oper} {K : St → Prop}
theorem hand_pure {v : Value} (hd : o.dst = some d) (hdn : d < n) (hrun : ∀ (F : Fr) (γ : Gh) (a : Act) (w : World), Rel F σ γ a w → (execOp a.eval o).run P w = .ok (.value v) w) (h : K (σ.put d (.v v))) : Hand P n σ o K :=
  hand_value hd hdn fun F γ a w _ hr => ⟨.v v, v, w, σ.ext, hrun F γ a w hr, Turn.same hr.exth (fun _ h => h) (fun _ h => .inr h), rfl, (fun k hk => by cases hk), h⟩
end
end Av
end Go.Proofs.YtcloigoajohppaaGreatDoor
/- A strings.Builder at the head of a block, as a piece of what the frame holds. Generic. -/
namespace Go.Proofs.YtcloigoajohppaaGreatDoor
open Go.RowKit
namespace Av

/-- A builder's pointer to itself. -/
def selfV (st : Bool) (b : Nat) : Value := .pointer (if st then some ⟨b, 0, none⟩ else none)
/-- Block b of type T: a builder that holds the bytes bs (as cells; its buffer: V), then other cells. -/
def bldE (T u8 : TypeId) (b : Nat) (st : Bool) (rest bs : List Value) (V : Value) : Ext where
  foot y := y = b ∨ V.ownBlock = some y
  froz _ := False
  holds w := w.heap[b]? = some (.cells (selfV st b :: V :: rest).toArray T (0, 0)) ∧ w.ownsRow 0 u8 1 V bs.length bs ∧ V.ownBlock ≠ some b
  stable {w w'} h hw := by
    obtain ⟨h1, h2, h3⟩ := hw
    refine ⟨(h b (.inl (.inl rfl))).trans h1, ⟨h2.1, ?_⟩, h3⟩
    rcases h2.2 with h4 | ⟨g, cap, cur, h4, h5, h6⟩
    · exact .inl h4
    · refine .inr ⟨g, cap, cur, h4, h5, ?_, h6.2⟩
      exact (h g (.inl (.inr (by rw [h4]; rfl)))).trans h6.1
/-- A contract over memory, lifted. -/
theorem fnX_of {ι : Type} {P : Program} {C : World → Prop} {f : FuncId} {vs : List Value} {X : Ext} {X' : ι → Ext} {res : AV} (he : Enters P f) (hres : res.refs = [])
    (h : ∀ w, (∀ b, X.all b → b < w.heap.size) → X.holds w → Calls P f vs.toArray w fun e w' => ∃ u i, e = .returned u ∧ Turn X w w' (X' i) ∧ ∀ R, RepA R (fun _ => 0) res u) : FnX P C f (vs.map AV.v) X res X' := by
  refine ⟨he, fun F E γ a w us _ hr hus => ?_⟩
  have hv : ∀ {vs us : List Value}, RepAL (rdr F.R0 F.w0.heap.size (extSt [] (E.and X)) γ w) (vs.map AV.v) us → us = vs := fun {vs} => by
    induction vs with
    | nil => intro us h; cases h; rfl
    | cons v vs ih =>
      intro us h
      cases h with
      | cons h1 _ h3 => rw [show _ = v from h1, ih h3]
  obtain rfl := hv hus
  have hx := hr.exth
  have hlt : ∀ b, (E.and X).foot b ∨ (E.and X).froz b → b < w.heap.size := fun b hb => (hr.extf b hb).2.1
  refine (h w (fun b hb => hlt b (hb.elim (fun h => .inl (.inr h)) (fun h => .inr (.inr h)))) hx.2.1).mono ?_
  rintro e w' ⟨u, i, rfl, ht, hu⟩
  exact ⟨u, γ, i, rfl, hr.turn (Turn.right (fun b hb => hlt b (hb.elim (fun h => .inl (.inl h)) (fun h => .inr (.inl h)))) hx ht), hres, hu _⟩
end Av
end Go.Proofs.YtcloigoajohppaaGreatDoor
/- What lies behind a builder at the head of a block: a field's place, a load, a store. Generic. -/
namespace Go.Proofs.YtcloigoajohppaaGreatDoor
open Go.RowKit
namespace Av

section
variable {P : Program} {n : Nat} {σ : St} {o : Oper} {d : Nat} {K : St → Prop}
/-- The place of a field behind a raw pointer. -/
theorem hand_rawField {T : TypeId} {x : Operand} {i : Nat} {fs : Array Field} {f : Field} {m b off : Nat} (ho : o.op = .fieldAddr T x i) (hd : o.dst = some d) (hdn : d < n) (hu : P.underlying T = some (.struct fs)) (hf : fs[i]? = some f) (hn : (P.info? f.type).map (·.size) = some (m + 1))
    (hx : evo (look σ.slot) x = some (.v (.pointer (some ⟨b, off, none⟩)))) (h : K (σ.put d (.v (.pointer (some ⟨b, off + f.offset, none⟩))))) : Hand P n σ o K := by
  refine hand_pure hd hdn (fun F γ a w hr => ?_) h
  have e := eval_raw hr hx
  simp [execOp, ho, e, run_field_at (P := P) w T fs f i m b off hu hf hn]
/-- A load of such a cell. -/
theorem hand_bldLoad {T u8 Tv : TypeId} {x : Operand} {b k : Nat} {st : Bool} {rest bs : List Value} {V v : Value} {A : Ext} {dd : TypeDesc} (ho : o.op = .load Tv x) (hd : o.dst = some d) (hdn : d < n) (hE : σ.ext = A.and (bldE T u8 b st rest bs V))
    (hx : evo (look σ.slot) x = some (.v (.pointer (some ⟨b, k + 2, none⟩)))) (hv : rest[k]? = some v) (hu : P.underlying Tv = some dd) (hdd : dd.isRow = false) (h : K (σ.put d (.v v))) : Hand P n σ o K := by
  refine hand_pure hd hdn (fun F γ a w hr => ?_) h
  have e := eval_raw hr hx
  have hext := hr.exth
  rw [hE] at hext
  have hb := hext.2.1.1
  have hc : w.cell? ⟨b, k + 2, none⟩ = some v := by
    rw [cell_of_row w _ _ _ T (0, 0) hb]
    simp [hv]
  simp [execOp, ho, e, run_load_one (P := P) w b (k + 2) Tv dd v hc hu hdd]
/-- A store into it. -/
theorem hand_bldStore {T u8 Tv : TypeId} {x y : Operand} {b k : Nat} {st : Bool} {rest bs : List Value} {V u : Value} {A : Ext} (ho : o.op = .store Tv x y) (hd : o.dst = none) (hE : σ.ext = A.and (bldE T u8 b st rest bs V))
    (hx : evo (look σ.slot) x = some (.v (.pointer (some ⟨b, k + 2, none⟩)))) (hy : evo (look σ.slot) y = some (.v u)) (hk : k < rest.length) (hc1 : u.cells = #[u]) (ho1 : u.oneCell' = true) (hn : (P.info? Tv).map (·.size) = some 1)
    (h : K { σ with ext := A.and (bldE T u8 b st (rest.set k u) bs V) }) : Hand P n σ o K := by
  refine hand_skip hd fun F γ a w hF hr => ?_
  have e1 := eval_raw hr hx
  have e2 := eval_raw hr hy
  have hext := hr.exth
  rw [hE] at hext
  obtain ⟨hA, ⟨hb, hown, hne⟩, hdis⟩ := hext
  obtain ⟨j, hj, hs⟩ := info_some hn
  have hst := run_storeCells_cells (P := P) b (k + 2) [u] 0 w (fun j hj => by
      rw [cell_of_row w _ _ _ T (0, 0) hb]
      simp at hj
      subst hj
      simp [hk]) (fun j hj => by
      unfold World.frozen?
      rw [show (⟨b, k + 2 + 0 + j, none⟩ : Addr).block = b from rfl, hb]
      simp) (by simpa using ho1)
  simp only [Nat.add_zero] at hst
  have hw : w.setCells b (k + 2) [u] = w.setCell ⟨b, k + 2, none⟩ u := rfl
  rw [hw] at hst
  have hg := Lib.grownBy_setCell w b (k + 2) u
  refine ⟨w.setCell ⟨b, k + 2, none⟩ u, _, ?_, ?_, h⟩
  · simp [execOp, ho, e1, e2, Instr.storeAt, Instr.sureAddr, storeVar, sizeOf, typeInfo, hj, hs, hc1, hst]
  · rw [hE]
    refine Turn.right (fun b' hb' => (hr.extf b' (by rw [hE]; exact hb'.elim (fun h => .inl (.inl h)) (fun h => .inr (.inl h)))).2.1) ⟨hA, ⟨hb, hown, hne⟩, hdis⟩ ?_
    refine Turn.grown hg (.inl rfl) ⟨?_, hown.kept hg (Or.inr hne), hne⟩ (fun _ h => h) (fun _ h => .inr h)
    have hlen : k + 2 < (selfV st b :: V :: rest).length := by simp; omega
    simp [World.setCell, Array.getElem?_modify, hb]
end
end Av
end Go.Proofs.YtcloigoajohppaaGreatDoor
/- The library's contracts that this claim uses, laid for its program: written by a tool of the kit. -/
namespace Go.Proofs.YtcloigoajohppaaGreatDoor
open Go.Shelf
def Tryz.laysM171_ren : Go.Shelf.Ren := ⟨fun | 171 => 58 | 243 => 104 | 246 => 129 | 283 => 143 | 284 => 144 | 285 => 145 | 286 => 146 | 129 => 155 | 317 => 154 | 318 => 156 | 319 => 157 | 320 => 158 | 337 => 161 | 338 => 162 | n => n, fun | 3 => 3 | 9 => 9 | 2 => 2 | 4 => 4 | 171 => 198 | 0 => 0 | 53 => 199 | 37 => 56 | 5 => 5 | 173 => 202 | 212 => 219 | 51 => 204 | 20 => 20 | 213 => 220 | 46 => 190 | 232 => 227 | 233 => 228 | n => n, fun | 17 => 5 | 18 => 6 | 19 => 7 | n => n⟩
theorem Tryz.laysM171 : Go.Proofs.LaysM.n171 Tryz.prog Tryz.laysM171_ren := {
  mixed := by kernel_rfl
  f129 := Tryz.func155.trans (congrArg some (by kernel_rfl))
  f171 := Tryz.func58.trans (congrArg some (by kernel_rfl))
  f243 := Tryz.func104.trans (congrArg some (by kernel_rfl))
  f246 := Tryz.func129.trans (congrArg some (by kernel_rfl))
  f283 := Tryz.func143.trans (congrArg some (by kernel_rfl))
  f284 := Tryz.func144.trans (congrArg some (by kernel_rfl))
  f285 := Tryz.func145.trans (congrArg some (by kernel_rfl))
  f286 := Tryz.func146.trans (congrArg some (by kernel_rfl))
  f317 := Tryz.func154.trans (congrArg some (by kernel_rfl))
  f318 := Tryz.func156.trans (congrArg some (by kernel_rfl))
  f319 := Tryz.func157.trans (congrArg some (by kernel_rfl))
  f320 := Tryz.func158.trans (congrArg some (by kernel_rfl))
  f337 := Tryz.func161.trans (congrArg some (by kernel_rfl))
  f338 := Tryz.func162.trans (congrArg some (by kernel_rfl))
  t0 := Tryz.underlying0
  a0 := Tryz.isAgg0
  z0 := Tryz.sizeOf0
  v0 := Tryz.zeroValue0
  t2 := Tryz.underlying2
  a2 := Tryz.isAgg2
  z2 := Tryz.sizeOf2
  v2 := Tryz.zeroValue2
  t3 := Tryz.underlying3
  a3 := Tryz.isAgg3
  z3 := Tryz.sizeOf3
  v3 := Tryz.zeroValue3
  t4 := Tryz.underlying4
  a4 := Tryz.isAgg4
  z4 := Tryz.sizeOf4
  v4 := Tryz.zeroValue4
  t5 := Tryz.underlying5
  a5 := Tryz.isAgg5
  z5 := Tryz.sizeOf5
  v5 := Tryz.zeroValue5
  t9 := Tryz.underlying9
  a9 := Tryz.isAgg9
  z9 := Tryz.sizeOf9
  v9 := Tryz.zeroValue9
  t20 := Tryz.underlying20
  a20 := Tryz.isAgg20
  z20 := Tryz.sizeOf20
  v20 := Tryz.zeroValue20
  t37 := Tryz.underlying56
  a37 := Tryz.isAgg56
  z37 := Tryz.sizeOf56
  v37 := Tryz.zeroValue56
  t46 := Tryz.underlying190
  a46 := Tryz.isAgg190
  z46 := Tryz.sizeOf190
  v46 := Tryz.zeroValue190
  t51 := Tryz.underlying204
  a51 := Tryz.isAgg204
  z51 := Tryz.sizeOf204
  v51 := Tryz.zeroValue204
  t53 := Tryz.underlying199
  a53 := Tryz.isAgg199
  z53 := Tryz.sizeOf199
  v53 := Tryz.zeroValue199
  t171 := Tryz.underlying198
  a171 := Tryz.isAgg198
  z171 := Tryz.sizeOf198
  v171 := Tryz.zeroValue198
  t173 := Tryz.underlying202
  a173 := Tryz.isAgg202
  z173 := Tryz.sizeOf202
  v173 := Tryz.zeroValue202
  t212 := Tryz.underlying219
  a212 := Tryz.isAgg219
  z212 := Tryz.sizeOf219
  v212 := Tryz.zeroValue219
  t213 := Tryz.underlying220
  a213 := Tryz.isAgg220
  z213 := Tryz.sizeOf220
  t232 := Tryz.underlying227
  a232 := Tryz.isAgg227
  z232 := Tryz.sizeOf227
  v232 := Tryz.zeroValue227
  t233 := Tryz.underlying228
  a233 := Tryz.isAgg228
  z233 := Tryz.sizeOf228
  v233 := Tryz.zeroValue228
  g17 := by kernel_rfl
  g18 := by kernel_rfl
  g19 := by kernel_rfl
  i0 := by kernel_rfl
  i2 := by kernel_rfl
  i3 := by kernel_rfl
  i4 := by kernel_rfl
  i5 := by kernel_rfl
  i9 := by kernel_rfl
  i20 := by kernel_rfl
  i37 := by kernel_rfl
  i46 := by kernel_rfl
  i51 := by kernel_rfl
  i53 := by kernel_rfl
  i171 := by kernel_rfl
  i173 := by kernel_rfl
  i212 := by kernel_rfl
  i232 := by kernel_rfl
  i233 := by kernel_rfl
  m17 := by kernel_rfl
  m18 := by kernel_rfl
  m19 := by kernel_rfl }
end Go.Proofs.YtcloigoajohppaaGreatDoor
/- Abstract states: maps whose elements are pointers to boxes. Generic. -/
namespace Go.Proofs.YtcloigoajohppaaGreatDoor
open Go.RowKit Go.Maps
open Go.Maps (Keyed)
namespace Av

section
variable {P : Program} {k : TypeId} {n d : Nat} {σ : St} {o : Oper} {K : St → Prop}
/-- Is a pointer nil? -/
theorem hand_isNil {T T' : TypeId} {x : Operand} {u : AV} (ho : o.op = .binOp .eql T x (.const (.pointer none)) T') (hd : o.dst = some d) (hdn : d < n) (hT : P.underlying T = some (.pointer (P.pointee T))) (hx : evo (look σ.slot) x = some u) (hu : ptrB u = true ∨ u = .v (.pointer none))
    (h : K (σ.put d (.v (.bool (!ptrB u))))) : Hand P n σ o K := by
  refine hand_value hd hdn fun F γ a w _ hr => ?_
  have e1 := (evo_ok hr (fun _ _ _ hy => hy) hx).1
  refine ⟨.v (.bool (!ptrB u)), .bool (!ptrB u), w, σ.ext, ?_, Turn.same hr.exth (fun _ h => h) (fun _ h => .inr h), rfl, (fun k hk => by cases hk), h⟩
  have e2 : (ptrB u = true ∧ ∃ p, a.eval x = .pointer (some p)) ∨ (ptrB u = false ∧ a.eval x = .pointer none) := by
    rcases hu with hu | rfl
    · refine .inl ⟨hu, ?_⟩
      cases u with
      | ref k off => exact ⟨_, e1⟩
      | ept row => obtain ⟨b, off, us, e, _⟩ := e1; exact ⟨_, e⟩
      | v y =>
        cases y with
        | pointer q =>
          cases q with
          | some p => exact ⟨p, e1⟩
          | none => cases hu
        | _ => cases hu
      | _ => cases hu
    · exact .inr ⟨rfl, e1⟩
  have e3 : a.eval (.const (.pointer none)) = .pointer none := rfl
  rcases e2 with ⟨h1, p, h2⟩ | ⟨h1, h2⟩
  · rw [h1]
    simp [execOp, ho, h2, e3, eqGuard, binOp, run_equal_pointer_nil w T (some p) hT]
  · rw [h1]
    simp [execOp, ho, h2, e3, eqGuard, binOp, run_equal_pointer_nil w T none hT]
end
end Av
end Go.Proofs.YtcloigoajohppaaGreatDoor
/- A region that draws its order: operations that do not wait for one another may be exchanged. Generic. -/
namespace Go.Proofs.YtcloigoajohppaaGreatDoor
open Go.RowKit
namespace Av

section
variable {S : Type} {P : Program} {ops : Array Oper} {Q : Exit → Act → World → Prop}
def chainS (ok : Nat → S → Prop) (app : Nat → S → S) : List Nat → S → Prop
  | [], _ => True
  | i :: l, s => ok i s ∧ chainS ok app l (app i s)
def runS (app : Nat → S → S) : List Nat → S → S
  | [], s => s
  | i :: l, s => runS app l (app i s)
structure SwapOK (ops : Array Oper) (E : S → S → Prop) (ok : Nat → S → Prop) (app : Nat → S → S) : Prop where
  refl : ∀ s, E s s
  symm : ∀ {s t}, E s t → E t s
  trans : ∀ {s t u}, E s t → E t u → E s u
  okE : ∀ {i s t}, E s t → ok i s → ok i t
  appE : ∀ {i s t}, E s t → E (app i s) (app i t)
  comm : ∀ {i j s}, i < j → j < ops.size → Region.waitsFor .any ops j i = false → ok i s → ok j (app i s) → ok j s ∧ ok i (app j s) ∧ E (app i (app j s)) (app j (app i s))
  back : ∀ i o, ops[i]? = some o → ∀ e ∈ o.after, Region.binds .any e = true → e.on < i
section
variable {E : S → S → Prop} {ok : Nat → S → Prop} {app : Nat → S → S}
theorem SwapOK.chainE (h : SwapOK ops E ok app) : ∀ {l : List Nat} {s t : S}, E s t → chainS ok app l s → chainS ok app l t ∧ E (runS app l s) (runS app l t)
  | [], _, _, he, _ => ⟨trivial, he⟩
  | i :: l, _, _, he, hc => by
    obtain ⟨h1, h2⟩ := h.chainE (l := l) (h.appE (i := i) he) hc.2
    exact ⟨⟨h.okE he hc.1, h1⟩, h2⟩
theorem SwapOK.front (h : SwapOK ops E ok app) {i : Nat} (hi : i < ops.size) {l2 : List Nat} : ∀ {l1 : List Nat} {s : S}, (∀ j ∈ l1, j < i ∧ Region.waitsFor .any ops i j = false) → chainS ok app (l1 ++ i :: l2) s →
    ok i s ∧ chainS ok app (l1 ++ l2) (app i s) ∧ E (runS app (l1 ++ l2) (app i s)) (runS app (l1 ++ i :: l2) s)
  | [], s, _, hc => ⟨hc.1, hc.2, h.refl _⟩
  | j :: l1, s, hl, hc => by
    obtain ⟨hj, hw⟩ := hl j List.mem_cons_self
    obtain ⟨h1, h2, h3⟩ := h.front hi (l1 := l1) (fun k hk => hl k (List.mem_cons_of_mem _ hk)) hc.2
    obtain ⟨g1, g2, g3⟩ := h.comm hj hi hw hc.1 h1
    obtain ⟨g4, g5⟩ := h.chainE (h.symm g3) h2
    exact ⟨g1, ⟨g2, g4⟩, h.trans (h.symm g5) h3⟩
theorem wpAny_swap (h : SwapOK ops E ok app) {R : S → Act → World → Prop} (hRE : ∀ {s t a w}, E s t → R s a w → R t a w)
    (hstep : ∀ i, i < ops.size → ∀ s a w, ok i s → R s a w → wpOp P ops Q i (fun a' w' => R (app i s) a' w') a w) {sF : S} (hQ : ∀ a w, R sF a w → Q .normal a w) :
    ∀ (n : Nat) (rem : List Nat) (listed : Array Bool) (s : S) (a : Act) (w : World), rem.length = n → rem.Pairwise (· < ·) → listed.size = ops.size → (∀ i, i < ops.size → (listed.getD i true = false ↔ i ∈ rem)) → (∀ i ∈ rem, i < ops.size) →
      R s a w → chainS ok app rem s → E (runS app rem s) sF → wpAny P .any ops Q n listed a w
  | 0, rem, listed, s, a, w, hn, _, hsz, hrem, _, hr, _, hF => by
    obtain rfl := List.eq_nil_of_length_eq_zero hn
    refine ⟨?_, hQ a w (hRE hF hr)⟩
    refine List.eq_nil_iff_forall_not_mem.2 fun j hj => ?_
    obtain ⟨h1, o, ho, _⟩ := mem_ready.1 hj
    have := (hrem j (Array.getElem?_eq_some_iff.1 ho).1).1 h1
    cases this
  | n + 1, rem, listed, s, a, w, hn, hp, hsz, hrem, hlt, hr, hc, hF => by
    have hin : ∀ j, j < ops.size → j ∉ rem → listed.getD j false = true := fun j hj hm => by
      cases hq : listed.getD j true with
      | false => exact absurd ((hrem j hj).1 hq) hm
      | true =>
        have hs : j < listed.size := by rw [hsz]; exact hj
        simp [hs] at hq ⊢
        exact hq
    refine ⟨fun h0 => ?_, fun i hi => ?_⟩
    · cases rem with
      | nil => cases hn
      | cons i rem =>
        obtain ⟨hp1, _⟩ := List.pairwise_cons.1 hp
        have hi := hlt i List.mem_cons_self
        have hmem : i ∈ Region.ready .any ops listed := by
          refine mem_ready.2 ⟨(hrem i hi).2 List.mem_cons_self, ops[i], by simp [hi], fun e he hb => ?_⟩
          have h4 := h.back i ops[i] (by simp [hi]) e he hb
          refine hin e.on (by omega) fun hm => ?_
          rcases List.mem_cons.1 hm with h5 | h5
          · omega
          · have := hp1 _ h5; omega
        rw [h0] at hmem
        cases hmem
    · obtain ⟨h1, o, ho, hall⟩ := mem_ready.1 hi
      have hio := (Array.getElem?_eq_some_iff.1 ho).1
      have hmem := (hrem i hio).1 h1
      obtain ⟨l1, l2, rfl⟩ := List.append_of_mem hmem
      obtain ⟨hp1, hp2, hp3⟩ := List.pairwise_append.1 hp
      obtain ⟨hp4, hp5⟩ := List.pairwise_cons.1 hp2
      have hl1 : ∀ j ∈ l1, j < i ∧ Region.waitsFor .any ops i j = false := fun j hj => by
        refine ⟨hp3 j hj i List.mem_cons_self, ?_⟩
        cases hw : Region.waitsFor .any ops i j with
        | false => rfl
        | true =>
          obtain ⟨oi, hoi, e, he, hb, hon⟩ := Region.waitsFor_spec hw
          rw [ho] at hoi
          cases hoi
          have h5 := hall e he hb
          rw [hon] at h5
          have h6 := (hrem j (hlt j (List.mem_append_left _ hj))).2 (List.mem_append_left _ hj)
          have hs : j < listed.size := by rw [hsz]; exact hlt j (List.mem_append_left _ hj)
          simp [hs] at h5 h6
          rw [h5] at h6; cases h6
      obtain ⟨g1, g2, g3⟩ := h.front hio hl1 hc
      have hni : ∀ j, j ∈ l1 ++ l2 → j ≠ i := fun j hj e => by
        subst e
        rcases List.mem_append.1 hj with h7 | h7
        · exact absurd (hl1 j h7).1 (Nat.lt_irrefl _)
        · exact absurd (hp4 j h7) (Nat.lt_irrefl _)
      refine wpOp_mono (fun a' w' hr' => ?_) (hstep i hio s a w g1 hr)
      refine wpAny_swap (R := R) h hRE hstep hQ n (l1 ++ l2) _ (app i s) a' w' ?_ ?_ (by simp [hsz]) (fun j hj => ?_) (fun j hj => ?_) hr' g2 (h.trans g3 hF)
      · simp at hn ⊢; omega
      · exact List.pairwise_append.2 ⟨hp1, hp5, fun x hx y hy => hp3 x hx y (List.mem_cons_of_mem _ hy)⟩
      · by_cases hji : i = j
        · subst hji
          have hs : i < listed.size := by rw [hsz]; exact hj
          constructor
          · intro h8; simp [hs] at h8
          · intro h8; exact absurd rfl (hni i h8)
        · rw [getD_set_ne true hji, hrem j hj]
          simp only [List.mem_append, List.mem_cons]
          constructor
          · rintro (h8 | h8 | h8)
            · exact .inl h8
            · exact absurd h8.symm hji
            · exact .inr h8
          · rintro (h8 | h8)
            · exact .inl h8
            · exact .inr (.inr h8)
      · rcases List.mem_append.1 hj with h8 | h8
        · exact hlt j (List.mem_append_left _ h8)
        · exact hlt j (List.mem_append_right _ (List.mem_cons_of_mem _ h8))
end
end
end Av
end Go.Proofs.YtcloigoajohppaaGreatDoor
/- Abstract states: a region that draws its order, with effects: appends, stores; any two operations of which neither waits for the other leave one another alone (footprints, checked by the kernel). Generic. -/
namespace Go.Proofs.YtcloigoajohppaaGreatDoor
open Go.RowKit
namespace Av

/-- What an operation does to an abstract state. -/
structure Eff where
  slot : Option (Nat × AV) := none
  nbox : Option (Nat × List PV) := none
  pat : Option (Nat × Nat × List PV) := none
  own : List (Loc × Option (TypeId × Nat)) := []
def ovr : List (Loc × Option (TypeId × Nat)) → List (Loc × (TypeId × Nat)) → List (Loc × (TypeId × Nat))
  | [], o => o
  | (L, none) :: l, o => delL (ovr l o) L
  | (L, some e) :: l, o => (L, e) :: delL (ovr l o) L
theorem lookL_ovr (L : Loc) (r : Option (TypeId × Nat)) (l : List (Loc × Option (TypeId × Nat))) (o : List (Loc × (TypeId × Nat))) (M : Loc) : lookL (ovr ((L, r) :: l) o) M = if M = L then r else lookL (ovr l o) M := by
  cases r with
  | none => exact lookL_del _ _ _
  | some e =>
    show lookL ((L, e) :: delL (ovr l o) L) M = _
    rw [lookL_cons, lookL_del]
    by_cases h : M = L
    · rw [if_pos h.symm, if_pos h]
    · rw [if_neg (fun e => h e.symm), if_neg h, if_neg h]
theorem ovr_out : ∀ {l : List (Loc × Option (TypeId × Nat))} {o : List (Loc × (TypeId × Nat))} {M : Loc}, (∀ x ∈ l, x.1 ≠ M) → lookL (ovr l o) M = lookL o M
  | [], _, _, _ => rfl
  | (L, r) :: l, o, M, h => by
    rw [lookL_ovr, if_neg (fun e => h (L, r) List.mem_cons_self e.symm)]
    exact ovr_out fun x hx => h x (List.mem_cons_of_mem _ hx)
theorem ovr_in : ∀ {l : List (Loc × Option (TypeId × Nat))} {o o' : List (Loc × (TypeId × Nat))} {M : Loc}, (∃ x ∈ l, x.1 = M) → lookL (ovr l o) M = lookL (ovr l o') M
  | [], _, _, _, h => by obtain ⟨x, hx, _⟩ := h; cases hx
  | (L, r) :: l, o, o', M, h => by
    rw [lookL_ovr, lookL_ovr]
    by_cases e : M = L
    · rw [if_pos e, if_pos e]
    · rw [if_neg e, if_neg e]
      obtain ⟨x, hx, hM⟩ := h
      rcases List.mem_cons.1 hx with rfl | hx
      · exact absurd hM.symm e
      · exact ovr_in ⟨x, hx, hM⟩
theorem ovr_congr {l : List (Loc × Option (TypeId × Nat))} {o o' : List (Loc × (TypeId × Nat))} {M : Loc} (h : lookL o M = lookL o' M) : lookL (ovr l o) M = lookL (ovr l o') M := by
  by_cases hm : ∃ x ∈ l, x.1 = M
  · exact ovr_in hm
  · rw [ovr_out fun x hx e => hm ⟨x, hx, e⟩, ovr_out fun x hx e => hm ⟨x, hx, e⟩, h]
def putO {α : Type} (x : Option (Nat × α)) (l : List (Nat × α)) : List (Nat × α) := match x with
  | some y => y :: l
  | none => l
def patO (x : Option (Nat × Nat × List PV)) (l : List (Nat × List PV)) : List (Nat × List PV) := match x with
  | some (k, off, xs) => (k, setAt ((look l k).getD []) off xs) :: l
  | none => l
def Eff.app (E : Eff) (σ : St) : St := { slot := putO E.slot σ.slot, box := patO E.pat (putO E.nbox σ.box), own := ovr E.own σ.own, ext := σ.ext }
def Eqv (σ τ : St) : Prop := (∀ t, look τ.slot t = look σ.slot t) ∧ (∀ k, look τ.box k = look σ.box k) ∧ (∀ L, lookL τ.own L = lookL σ.own L) ∧ τ.ext = σ.ext
theorem Eqv.refl (σ : St) : Eqv σ σ := ⟨fun _ => rfl, fun _ => rfl, fun _ => rfl, rfl⟩
theorem Eqv.symm {σ τ : St} (h : Eqv σ τ) : Eqv τ σ := ⟨fun t => (h.1 t).symm, fun t => (h.2.1 t).symm, fun t => (h.2.2.1 t).symm, h.2.2.2.symm⟩
theorem Eqv.trans {σ τ υ : St} (h : Eqv σ τ) (g : Eqv τ υ) : Eqv σ υ := ⟨fun t => (g.1 t).trans (h.1 t), fun t => (g.2.1 t).trans (h.2.1 t), fun t => (g.2.2.1 t).trans (h.2.2.1 t), g.2.2.2.trans h.2.2.2⟩
theorem look_putO {α : Type} (x : Option (Nat × α)) (l : List (Nat × α)) (t : Nat) : look (putO x l) t = match x with | some y => if y.1 = t then some y.2 else look l t | none => look l t := by
  cases x with
  | none => rfl
  | some y => exact look_cons _ _ _ _
theorem look_putO_congr {α : Type} {x : Option (Nat × α)} {l l' : List (Nat × α)} {t : Nat} (h : look l t = look l' t) : look (putO x l) t = look (putO x l') t := by
  rw [look_putO, look_putO, h]
theorem look_patO_congr {x : Option (Nat × Nat × List PV)} {l l' : List (Nat × List PV)} (h : ∀ t, look l t = look l' t) (t : Nat) : look (patO x l) t = look (patO x l') t := by
  cases x with
  | none => exact h t
  | some y =>
    obtain ⟨k, off, xs⟩ := y
    unfold patO
    dsimp only
    rw [look_cons, look_cons, h, h]
theorem look_patO (x : Option (Nat × Nat × List PV)) (l : List (Nat × List PV)) (t : Nat) : look (patO x l) t = match x with | some y => if y.1 = t then some (setAt ((look l y.1).getD []) y.2.1 y.2.2) else look l t | none => look l t := by
  cases x with
  | none => rfl
  | some y => exact look_cons _ _ _ _
theorem Eff.eqv (E : Eff) {σ τ : St} (h : Eqv σ τ) : Eqv (E.app σ) (E.app τ) :=
  ⟨fun t => look_putO_congr (h.1 t), fun k => look_patO_congr (fun t => look_putO_congr (h.2.1 t)) k, fun L => ovr_congr (h.2.2.1 L), h.2.2.2⟩

/-- Footprints: slots, places of ownership, boxes that are read and written; cells of boxes that are stored; boxes that are made. -/
structure FP where
  rs : List Nat
  ws : List Nat
  ro : List Loc
  wo : List Loc
  rb : List Nat
  wb : List (Nat × Nat × Nat)
  nb : List Nat
def apartN (a b : List Nat) : Bool := a.all fun x => b.all fun y => !Nat.beq x y
def Loc.eqB : Loc → Loc → Bool
  | .s t, .s u => Nat.beq t u
  | .b k o, .b l p => Nat.beq k l && Nat.beq o p
  | _, _ => false
def apartL (a b : List Loc) : Bool := a.all fun x => b.all fun y => !Loc.eqB x y
def apartW (a b : List (Nat × Nat × Nat)) : Bool := a.all fun x => b.all fun y => !Nat.beq x.1 y.1 || Nat.ble (x.2.1 + x.2.2) y.2.1 || Nat.ble (y.2.1 + y.2.2) x.2.1
def indep (f g : FP) : Bool :=
  apartN f.ws g.rs && (apartN f.ws g.ws && (apartN g.ws f.rs && (apartL f.wo g.ro && (apartL f.wo g.wo && (apartL g.wo f.ro &&
  (apartN f.nb g.rb && (apartN f.nb g.nb && (apartN f.nb (g.wb.map (·.1)) && (apartN g.nb f.rb && (apartN g.nb (f.wb.map (·.1)) && (apartN (f.wb.map (·.1)) g.rb && (apartN (g.wb.map (·.1)) f.rb && apartW f.wb g.wb))))))))))))
theorem apartN_iff {a b : List Nat} (h : apartN a b = true) {x : Nat} (hx : x ∈ a) : x ∉ b := fun hb => by
  have := List.all_eq_true.1 (List.all_eq_true.1 h x hx) x hb
  simp at this
theorem eqB_iff {L M : Loc} : Loc.eqB L M = true ↔ L = M := by
  cases L <;> cases M <;> simp [Loc.eqB]
theorem apartL_iff {a b : List Loc} (h : apartL a b = true) {x : Loc} (hx : x ∈ a) : x ∉ b := fun hb => by
  have := List.all_eq_true.1 (List.all_eq_true.1 h x hx) x hb
  rw [eqB_iff.2 rfl] at this
  cases this
theorem apartW_iff {a b : List (Nat × Nat × Nat)} (h : apartW a b = true) {k o n p m : Nat} (hx : (k, o, n) ∈ a) (hy : (k, p, m) ∈ b) : o + n ≤ p ∨ p + m ≤ o := by
  have := List.all_eq_true.1 (List.all_eq_true.1 h _ hx) _ hy
  simpa using this
/-- The effect stays within the footprint. -/
structure Fits (WB : List Nat) (f : FP) (E : Eff) : Prop where
  slot : ∀ x, E.slot = some x → x.1 ∈ f.ws
  nbox : ∀ x, E.nbox = some x → x.1 ∈ f.nb
  pat : ∀ k off xs, E.pat = some (k, off, xs) → (k, off, xs.length) ∈ f.wb
  own : ∀ x ∈ E.own, x.1 ∈ f.wo
  nbW : ∀ k ∈ f.nb, k ∈ WB
  wbW : ∀ x ∈ f.wb, x.1 ∈ WB
/-- What an operation reads is here as it is there. -/
structure Agree (WB : List Nat) (f : FP) (σi σ : St) : Prop where
  rs : ∀ t ∈ f.rs, look σ.slot t = look σi.slot t
  ro : ∀ L ∈ f.ro, lookL σ.own L = lookL σi.own L
  rb : ∀ k, k ∈ f.rb ∨ k ∉ WB → look σ.box k = look σi.box k
  wb : ∀ k o n, (k, o, n) ∈ f.wb → ∃ cs, look σ.box k = some cs ∧ o + n ≤ cs.length
  nb : ∀ k ∈ f.nb, look σ.box k = none
  ext : σ.ext = σi.ext
theorem Agree.eqv {WB : List Nat} {f : FP} {σi σ τ : St} (h : Agree WB f σi σ) (e : Eqv σ τ) : Agree WB f σi τ :=
  ⟨fun t ht => (e.1 t).trans (h.rs t ht), fun L hL => (e.2.2.1 L).trans (h.ro L hL), fun k hk => (e.2.1 k).trans (h.rb k hk), fun k o n hk => by rw [e.2.1 k]; exact h.wb k o n hk, fun k hk => (e.2.1 k).trans (h.nb k hk), e.2.2.2.trans h.ext⟩
section
variable {WB : List Nat} {f g : FP} {E G : Eff} {σ : St}
theorem app_slot (hf : Fits WB f E) {t : Nat} (ht : t ∉ f.ws) : look (E.app σ).slot t = look σ.slot t := by
  show look (putO E.slot σ.slot) t = _
  rw [look_putO]
  cases he : E.slot with
  | none => rfl
  | some x => exact if_neg (fun e => ht (by rw [← e]; exact hf.slot x he))
theorem app_own (hf : Fits WB f E) {L : Loc} (hL : L ∉ f.wo) : lookL (E.app σ).own L = lookL σ.own L :=
  ovr_out fun x hx e => hL (by rw [← e]; exact hf.own x hx)
theorem app_box (hf : Fits WB f E) {k : Nat} (h1 : k ∉ f.nb) (h2 : k ∉ f.wb.map (·.1)) : look (E.app σ).box k = look σ.box k := by
  show look (patO E.pat (putO E.nbox σ.box)) k = _
  have h3 : look (putO E.nbox σ.box) k = look σ.box k := by
    rw [look_putO]
    cases he : E.nbox with
    | none => rfl
    | some x => exact if_neg (fun e => h1 (by rw [← e]; exact hf.nbox x he))
  cases hp : E.pat with
  | none => exact h3
  | some y =>
    obtain ⟨j, off, xs⟩ := y
    unfold patO
    dsimp only
    rw [look_cons, if_neg (fun e => h2 (by rw [← e]; exact List.mem_map_of_mem (f := (·.1)) (hf.pat j off xs hp)))]
    exact h3
/-- The length of a box that is stored into. -/
theorem app_len (hf : Fits WB f E) {σi : St} (ha : Agree WB f σi σ) {k : Nat} (h1 : k ∉ f.nb) {m : Nat} : (∃ cs, look (E.app σ).box k = some cs ∧ m ≤ cs.length) ↔ ∃ cs, look σ.box k = some cs ∧ m ≤ cs.length := by
  have h3 : look (putO E.nbox σ.box) k = look σ.box k := by
    rw [look_putO]
    cases he : E.nbox with
    | none => rfl
    | some x => exact if_neg (fun e => h1 (by rw [← e]; exact hf.nbox x he))
  show (∃ cs, look (patO E.pat (putO E.nbox σ.box)) k = some cs ∧ _) ↔ _
  cases hp : E.pat with
  | none => rw [show patO none (putO E.nbox σ.box) = putO E.nbox σ.box from rfl, h3]
  | some y =>
    obtain ⟨j, off, xs⟩ := y
    unfold patO
    dsimp only
    rw [look_cons]
    by_cases e : j = k
    · subst e
      rw [if_pos rfl, h3]
      obtain ⟨cs, h4, h5⟩ := ha.wb j off xs.length (hf.pat j off xs hp)
      rw [h4]
      simp [setAt_length h5]
    · rw [if_neg e, h3]
theorem mapfst {l : List (Nat × Nat × Nat)} {k o n : Nat} (h : (k, o, n) ∈ l) : k ∈ l.map (·.1) := List.mem_map_of_mem (f := (·.1)) h
/-- An effect that is apart from it leaves what an operation reads. -/
theorem Agree.app_iff (hf : Fits WB f E) {σf σg : St} (haf : Agree WB f σf σ) (h1 : apartN f.ws g.rs = true) (h2 : apartL f.wo g.ro = true) (h3 : apartN f.nb g.rb = true) (h4 : apartN f.nb g.nb = true) (h5 : apartN f.nb (g.wb.map (·.1)) = true) (h6 : apartN (f.wb.map (·.1)) g.rb = true) (h7 : apartN (f.wb.map (·.1)) g.nb = true) :
    Agree WB g σg (E.app σ) ↔ Agree WB g σg σ := by
  have e1 : ∀ t ∈ g.rs, look (E.app σ).slot t = look σ.slot t := fun t ht => app_slot hf fun hw => apartN_iff h1 hw ht
  have e2 : ∀ L ∈ g.ro, lookL (E.app σ).own L = lookL σ.own L := fun L hL => app_own hf fun hw => apartL_iff h2 hw hL
  have e3 : ∀ k, k ∈ g.rb ∨ k ∉ WB → look (E.app σ).box k = look σ.box k := fun k hk => by
    rcases hk with hk | hk
    · exact app_box hf (fun hw => apartN_iff h3 hw hk) (fun hw => apartN_iff h6 hw hk)
    · refine app_box hf (fun hw => hk (hf.nbW k hw)) (fun hw => ?_)
      obtain ⟨x, hx, rfl⟩ := List.mem_map.1 hw
      exact hk (hf.wbW x hx)
  have e4 : ∀ k o n, (k, o, n) ∈ g.wb → ((∃ cs, look (E.app σ).box k = some cs ∧ o + n ≤ cs.length) ↔ ∃ cs, look σ.box k = some cs ∧ o + n ≤ cs.length) := fun k o n hk => app_len hf haf fun hw => apartN_iff h5 hw (mapfst hk)
  have e5 : ∀ k ∈ g.nb, look (E.app σ).box k = look σ.box k := fun k hk => app_box hf (fun hw => apartN_iff h4 hw hk) (fun hw => apartN_iff h7 hw hk)
  constructor
  · intro h
    exact ⟨fun t ht => (e1 t ht).symm.trans (h.rs t ht), fun L hL => (e2 L hL).symm.trans (h.ro L hL), fun k hk => (e3 k hk).symm.trans (h.rb k hk), fun k o n hk => (e4 k o n hk).1 (h.wb k o n hk), fun k hk => (e5 k hk).symm.trans (h.nb k hk), h.ext⟩
  · intro h
    exact ⟨fun t ht => (e1 t ht).trans (h.rs t ht), fun L hL => (e2 L hL).trans (h.ro L hL), fun k hk => (e3 k hk).trans (h.rb k hk), fun k o n hk => (e4 k o n hk).2 (h.wb k o n hk), fun k hk => (e5 k hk).trans (h.nb k hk), h.ext⟩
theorem setAt_get {α : Type} {l : List α} {o : Nat} {xs : List α} (h : o + xs.length ≤ l.length) {i : Nat} (h1 : o ≤ i) (h2 : i < o + xs.length) : (setAt l o xs)[i]? = xs[i - o]? := by
  unfold setAt
  rw [List.append_assoc, List.getElem?_append_right (by simp; omega), List.length_take, Nat.min_eq_left (by omega), List.getElem?_append_left (by omega)]
theorem setAt_comm {α : Type} {l : List α} {o p : Nat} {xs ys : List α} (h1 : o + xs.length ≤ l.length) (h2 : p + ys.length ≤ l.length) (h : o + xs.length ≤ p ∨ p + ys.length ≤ o) : setAt (setAt l o xs) p ys = setAt (setAt l p ys) o xs := by
  have l1 := setAt_length h1
  have l2 := setAt_length h2
  have h1' : o + xs.length ≤ (setAt l p ys).length := by omega
  have h2' : p + ys.length ≤ (setAt l o xs).length := by omega
  refine List.ext_getElem? fun i => ?_
  by_cases hx : o ≤ i ∧ i < o + xs.length
  · rw [setAt_out h2' (by omega), setAt_get h1 hx.1 hx.2, setAt_get h1' hx.1 hx.2]
  · by_cases hy : p ≤ i ∧ i < p + ys.length
    · rw [setAt_get h2' hy.1 hy.2, setAt_out h1' (by omega), setAt_get h2 hy.1 hy.2]
    · rw [setAt_out h2' (by omega), setAt_out h1 (by omega), setAt_out h1' (by omega), setAt_out h2 (by omega)]
theorem app_swap (hf : Fits WB f E) (hg : Fits WB g G) {σf σg : St} (haf : Agree WB f σf σ) (hag : Agree WB g σg σ) (hi : indep f g = true) : Eqv (E.app (G.app σ)) (G.app (E.app σ)) := by
  simp only [indep, Bool.and_eq_true] at hi
  obtain ⟨_, i2, _, _, i5, _, i7, i8, i9, i10, i11, i12, i13, i14⟩ := hi
  refine ⟨fun t => ?_, fun k => ?_, fun L => ?_, rfl⟩
  · by_cases ht : t ∈ f.ws
    · rw [app_slot hg (fun h => apartN_iff i2 ht h)]
      exact look_putO_congr (app_slot hg (fun h => apartN_iff i2 ht h)).symm
    · rw [app_slot (σ := G.app σ) hf ht]
      exact look_putO_congr (app_slot hf ht)
  · -- boxes
    have key : ∀ k, k ∉ f.nb → k ∉ f.wb.map (·.1) → look (G.app (E.app σ)).box k = look (E.app (G.app σ)).box k := fun k h1 h2 => by
      rw [app_box (σ := G.app σ) hf h1 h2]
      have hs := app_box (σ := σ) hf h1 h2
      show look (patO G.pat (putO G.nbox (E.app σ).box)) k = look (patO G.pat (putO G.nbox σ.box)) k
      have h3 : look (putO G.nbox (E.app σ).box) k = look (putO G.nbox σ.box) k := look_putO_congr hs
      cases hp : G.pat with
      | none => exact h3
      | some y =>
        obtain ⟨j, off, xs⟩ := y
        unfold patO
        dsimp only
        rw [look_cons, look_cons]
        by_cases e : j = k
        · subst e; rw [h3]
        · rw [if_neg e, if_neg e, h3]
    by_cases h1 : k ∈ f.nb
    · have g1 : k ∉ g.nb := fun h => apartN_iff i8 h1 h
      have g2 : k ∉ g.wb.map (·.1) := fun h => apartN_iff i9 h1 h
      rw [app_box (σ := E.app σ) hg g1 g2]
      have hs := app_box (σ := σ) hg g1 g2
      show look (patO E.pat (putO E.nbox σ.box)) k = look (patO E.pat (putO E.nbox (G.app σ).box)) k
      have h3 : look (putO E.nbox (G.app σ).box) k = look (putO E.nbox σ.box) k := look_putO_congr hs
      cases hp : E.pat with
      | none => exact h3.symm
      | some y =>
        obtain ⟨j, off, xs⟩ := y
        unfold patO
        dsimp only
        rw [look_cons, look_cons]
        by_cases e : j = k
        · subst e; rw [h3]
        · rw [if_neg e, if_neg e, h3]
    · by_cases h2 : k ∈ f.wb.map (·.1)
      · by_cases g2 : k ∈ g.wb.map (·.1)
        · have g1 : k ∉ g.nb := fun h => apartN_iff i11 h h2
          obtain ⟨⟨k', o, n⟩, hx, rfl⟩ := List.mem_map.1 h2
          obtain ⟨⟨k'', p, m⟩, hy, hk⟩ := List.mem_map.1 g2
          dsimp only at hk h1 g1 ⊢
          subst hk
          have hn1 : ∀ b, look (putO E.nbox b) k'' = look b k'' := fun b => by
            rw [look_putO]
            cases he : E.nbox with
            | none => rfl
            | some x => exact if_neg (fun e => h1 (by rw [← e]; exact hf.nbox x he))
          have hn2 : ∀ b, look (putO G.nbox b) k'' = look b k'' := fun b => by
            rw [look_putO]
            cases he : G.nbox with
            | none => rfl
            | some x => exact if_neg (fun e => g1 (by rw [← e]; exact hg.nbox x he))
          show look (patO G.pat (putO G.nbox (patO E.pat (putO E.nbox σ.box)))) k'' = look (patO E.pat (putO E.nbox (patO G.pat (putO G.nbox σ.box)))) k''
          rw [look_patO, look_patO, hn2, hn1]
          cases hpe : E.pat with
          | none =>
            cases hpg : G.pat with
            | none => simp only [look_patO, hn1, hn2]
            | some y =>
              obtain ⟨j, off, xs⟩ := y
              simp only [look_patO, hn1, hn2]
              by_cases e : j = k''
              · subst e; simp only [if_true, look_patO, hn1, hn2]
              · rw [if_neg e, if_neg e]
          | some x =>
            obtain ⟨i, o', xs⟩ := x
            cases hpg : G.pat with
            | none =>
              simp only [look_patO, hn1, hn2]
              by_cases e : i = k''
              · subst e; simp only [if_true, look_patO, hn1, hn2]
              · rw [if_neg e, if_neg e]
            | some y =>
              obtain ⟨j, p', ys⟩ := y
              simp only [look_patO, hn1, hn2]
              by_cases e : i = k''
              · subst e
                by_cases e' : j = i
                · subst e'
                  obtain ⟨cs, c1, c2⟩ := haf.wb j o' xs.length (hf.pat _ _ _ hpe)
                  obtain ⟨cs', c3, c4⟩ := hag.wb j p' ys.length (hg.pat _ _ _ hpg)
                  rw [c1] at c3
                  cases c3
                  simp only [if_true, look_patO, hn1, hn2, c1, Option.getD_some, Option.some.injEq]
                  exact setAt_comm c2 c4 (apartW_iff i14 (hf.pat _ _ _ hpe) (hg.pat _ _ _ hpg))
                · simp only [if_true, look_patO, if_neg e', hn1, hn2]
              · by_cases e' : j = k''
                · subst e'
                  simp only [if_true, look_patO, if_neg e, hn1, hn2]
                · simp only [if_neg e', if_neg e]
        · -- stored by the first alone
          by_cases g1 : k ∈ g.nb
          · exact absurd h2 (apartN_iff i11 g1)
          · rw [app_box (σ := E.app σ) hg g1 g2]
            have hs := app_box (σ := σ) hg g1 g2
            show look (patO E.pat (putO E.nbox σ.box)) k = look (patO E.pat (putO E.nbox (G.app σ).box)) k
            have h3 : look (putO E.nbox (G.app σ).box) k = look (putO E.nbox σ.box) k := look_putO_congr hs
            cases hp : E.pat with
            | none => exact h3.symm
            | some y =>
              obtain ⟨j, off, xs⟩ := y
              unfold patO
              dsimp only
              rw [look_cons, look_cons]
              by_cases e : j = k
              · subst e; rw [h3]
              · rw [if_neg e, if_neg e, h3]
      · exact key k h1 h2
  · by_cases hL : L ∈ f.wo
    · rw [app_own hg (fun h => apartL_iff i5 hL h)]
      exact ovr_congr (app_own hg (fun h => apartL_iff i5 hL h)).symm
    · rw [app_own (σ := G.app σ) hf hL]
      exact ovr_congr (app_own hf hL)
theorem apartN_symm {a b : List Nat} (h : apartN a b = true) : apartN b a = true :=
  List.all_eq_true.2 fun x hx => List.all_eq_true.2 fun y hy => by
    have h1 : ¬ x = y := fun e => by subst e; exact apartN_iff h hy hx
    cases hb : Nat.beq x y with
    | false => rfl
    | true => exact absurd (Nat.eq_of_beq_eq_true hb) h1
end
end Av
end Go.Proofs.YtcloigoajohppaaGreatDoor
/- Abstract states: the walk through a region that draws its order, with effects. Generic. -/
namespace Go.Proofs.YtcloigoajohppaaGreatDoor
open Go.RowKit
namespace Av

/-- What of a footprint is not to be read off the text: whence a row is handed on, whether a box is made; the row that an append takes; the cells that are stored. -/
inductive Dy where
  | q (S : Option Loc) (nb : Bool)
  | a (s : Option Nat)
  | st (k off n : Nat)
  | no
def stT (o : Oper) : List Loc := match o.op with
  | .store _ _ (.tmp t) => [.s t]
  | _ => []
def fpOf (ops : Array Oper) (X : List (Nat × List Nat)) (o : Oper) : Dy → FP
  | .q S nb => ⟨o.looksAt ops, o.dst.toList, S.toList, o.dst.toList.map .s ++ S.toList, (look X (o.dst.getD 0)).getD [], [], if nb then o.dst.toList else []⟩
  | .a s => ⟨o.looksAt ops, o.dst.toList, s.toList.map .s, o.dst.toList.map .s ++ s.toList.map .s, [], [], []⟩
  | .st k off n => ⟨o.looksAt ops, [], stT o, stT o ++ (List.range n).map (fun i => .b k (off + i)) ++ [.b k off], [], [(k, off, n)], []⟩
  | .no => ⟨o.looksAt ops, o.dst.toList, [], o.dst.toList.map .s, [], [], []⟩
def bxf (WB rb : List Nat) (b : Nat → Option (List PV)) (k : Nat) : Option (List PV) := if WB.contains k && !rb.contains k then none else b k
def xof (X : List (Nat × List Nat)) (d : Nat) : List Nat := (look X d).getD []
def takesS (P : Program) (st : List Nat) (g : Nat → Option AV) (o : Oper) (d : Nat) : Option Loc := if takes st o d = true then src P g o else none
/-- One operation, with its footprint. -/
def sopX (P : Program) (n : Nat) (st WB : List Nat) (X : List (Nat × List Nat)) (σ : St) (o : Oper) (K : St → Dy → Prop) : Prop :=
  match o.op, o.dst with
  | .store T x v, none => ∃ k off u cs xs, evo (look σ.slot) x = some (.ref k off) ∧ evo (look σ.slot) v = some u ∧ look σ.box k = some cs ∧ avCells u = some xs ∧ (P.info? T).map (·.size) = some xs.length ∧ off + xs.length ≤ cs.length ∧ WB.contains k = true ∧ K (storeSt σ k off cs xs v) (.st k off xs.length)
  | .call { callee := .builtin .append, args, argTypes }, some d => 
    ∃ x y T e i z rows rows2 s, args.toList = [x, y] ∧ argTypes.toList = [T, T] ∧ P.underlying T = some (.slice e) ∧ (P.info? e).map (·.size) = some i ∧ 0 < i ∧ (P.info? e).map (·.zero) = some (some z) ∧ z.cells.size = i ∧ ((P.info? e).map fun j => decide (j.bytes ≤ 1000000)) = some true ∧ d < n ∧
    ((s = none ∧ rows = [] ∧ evo (look σ.slot) x = some (.v (.slice none 0 0))) ∨ (∃ t, x = .tmp t ∧ s = some t ∧ lookL σ.own (.s t) = some (e, i) ∧ look σ.slot t = some (.sl i rows))) ∧
    (evo (look σ.slot) y = some (.sl i rows2) ∨ (rows2 = [] ∧ evo (look σ.slot) y = some (.v (.slice none 0 0)))) ∧ rows.length + rows2.length ≤ 100000000 ∧
    K ({ σ with own := delS σ.own s }.putOwn d i (rows ++ rows2) e) (.a s)
  | _, some d => d < n ∧ hopx P (look σ.slot) (bxf WB (xof X d) (look σ.box)) o (fun r => (if WB.contains d = true then look σ.box d = none ∧ (xof X d).contains d = false else bxOf r = none) ∧ K (stl P st (look σ.slot) o d (σ.res d r)) (.q (takesS P st (look σ.slot) o d) (WB.contains d)))
  | _, none => False
def sopsX (P : Program) (n : Nat) (st WB : List Nat) (X : List (Nat × List Nat)) (ops : Array Oper) : List Oper → St → List Dy → (St → List Dy → Prop) → Prop
  | [], σ, fs, K => K σ fs
  | o :: l, σ, fs, K => match guardB ops (look σ.slot) o with
    | some true => sopX P n st WB X σ o fun σ' f => sopsX P n st WB X ops l σ' (f :: fs) K
    | some false => ∃ d, o.dst = some d ∧ d < n ∧ sopsX P n st WB X ops l (σ.put d (.v undef)) (.no :: fs) K
    | none => False
def backB (ops : Array Oper) : Bool := (List.range ops.size).all fun i => match ops[i]? with
  | none => true
  | some o => o.after.all fun e => !Region.binds .any e || Nat.blt e.on i
def fpsOf (ops : Array Oper) (X : List (Nat × List Nat)) : List Oper → List Dy → List FP
  | o :: l, f :: fs => fpOf ops X o f :: fpsOf ops X l fs
  | _, _ => []
/-- Any two of which neither waits for the other are independent. -/
def indAll (ops : Array Oper) (X : List (Nat × List Nat)) (l : List Oper) (fs : List Dy) : Bool :=
  (fpsOf ops X l fs.reverse).zipIdx.all fun g => (fpsOf ops X l fs.reverse).zipIdx.all fun f => !Nat.blt f.2 g.2 || (Region.waitsFor .any ops g.2 f.2 || indep f.1 g.1)

section
variable {P : Program} {F : Fr} {ops : Array Oper}
/-- What is known of an operation. -/
structure StepX (P : Program) (F : Fr) (ops : Array Oper) (WB : List Nat) (σ : St) (o : Oper) (f : FP) (E : Eff) (σ' : St) : Prop where
  fits : Fits WB f E
  agree : Agree WB f σ σ
  next : Eqv σ' (E.app σ)
  run : ∀ τ γ a w, Agree WB f σ τ → Rel F τ γ a w → ∀ Q i, ops[i]? = some o → wpOp P ops Q i (fun a' w' => ∃ γ', Rel F (E.app τ) γ' a' w') a w
inductive RunX (P : Program) (F : Fr) (ops : Array Oper) (WB : List Nat) : List Oper → St → List (St × FP × Eff) → St → Prop
  | nil {σ : St} : RunX P F ops WB [] σ [] σ
  | cons {o : Oper} {l : List Oper} {σ σ1 σ' : St} {f : FP} {E : Eff} {T : List (St × FP × Eff)} (h : StepX P F ops WB σ o f E σ1) (t : RunX P F ops WB l σ1 T σ') : RunX P F ops WB (o :: l) σ ((σ, f, E) :: T) σ'
theorem RunX.length {WB : List Nat} {l : List Oper} {σ σ' : St} {T : List (St × FP × Eff)} (h : RunX P F ops WB l σ T σ') : T.length = l.length := by
  induction h with
  | nil => rfl
  | cons _ _ ih => simp [ih]
theorem RunX.at {WB : List Nat} {l : List Oper} {σ σ' : St} {T : List (St × FP × Eff)} (h : RunX P F ops WB l σ T σ') : ∀ {i : Nat} {x : St × FP × Eff}, T[i]? = some x → ∃ o σ1, l[i]? = some o ∧ StepX P F ops WB x.1 o x.2.1 x.2.2 σ1 := by
  induction h with
  | nil => intro i x hx; simp at hx
  | cons h _ ih =>
    intro i x hx
    cases i with
    | zero => simp at hx; subst hx; exact ⟨_, _, rfl, h⟩
    | succ i => simpa using ih (by simpa using hx)
def okX (WB : List Nat) (T : List (St × FP × Eff)) (i : Nat) (σ : St) : Prop := ∀ x, T[i]? = some x → Agree WB x.2.1 x.1 σ
def appX (T : List (St × FP × Eff)) (i : Nat) (σ : St) : St := match T[i]? with
  | some x => x.2.2.app σ
  | none => σ
theorem RunX.chain {WB : List Nat} {l : List Oper} {σ σ' : St} {T0 T : List (St × FP × Eff)} (h : RunX P F ops WB l σ T σ') : ∀ (k : Nat) (τ : St), T0.drop k = T → Eqv σ τ → chainS (okX WB T0) (appX T0) (List.range' k l.length) τ ∧ Eqv (runS (appX T0) (List.range' k l.length) τ) σ' := by
  induction h with
  | nil => intro k τ _ he; exact ⟨trivial, he.symm⟩
  | @cons o l σ σ1 σ' f E T h t ih =>
    intro k τ hT he
    have h0 : T0[k]? = some (σ, f, E) := by
      have := congrArg (·[0]?) hT
      simpa using this
    have h1 : T0.drop (k + 1) = T := by
      have := congrArg List.tail hT
      simpa [List.tail_drop] using this
    have e1 : appX T0 k τ = E.app τ := by unfold appX; rw [h0]
    obtain ⟨g1, g2⟩ := ih (k + 1) (appX T0 k τ) h1 (h.next.trans (by rw [e1]; exact E.eqv he))
    rw [List.length_cons, List.range'_succ]
    exact ⟨⟨fun x hx => by rw [h0] at hx; cases hx; exact h.agree.eqv he, g1⟩, g2⟩
theorem RunX.swap {WB : List Nat} {l : List Oper} {σ σ' : St} {T : List (St × FP × Eff)} (h : RunX P F l.toArray WB l σ T σ') (hb : backB l.toArray = true) (hi : ∀ i j x y, i < j → T[i]? = some x → T[j]? = some y → Region.waitsFor .any l.toArray j i = false → indep x.2.1 y.2.1 = true) : SwapOK l.toArray Eqv (okX WB T) (appX T) := by
  refine ⟨Eqv.refl, Eqv.symm, Eqv.trans, fun he ho x hx => (ho x hx).eqv he, fun {i s t} he => ?_, fun {i j s} hij hj hw hoi hoj => ?_, fun i o ho e he hb' => ?_⟩
  · unfold appX
    cases T[i]? with
    | none => exact he
    | some x => exact x.2.2.eqv he
  · have hlen := h.length
    have hj' : j < T.length := by rw [hlen]; simpa using hj
    have hxi : T[i]? = some T[i] := List.getElem?_eq_getElem _
    have hxj : T[j]? = some T[j] := List.getElem?_eq_getElem _
    generalize T[i] = x at hxi
    generalize T[j] = y at hxj
    obtain ⟨oi, σi, _, hsi⟩ := h.at hxi
    obtain ⟨oj, σj, _, hsj⟩ := h.at hxj
    have hind := hi i j x y hij hxi hxj hw
    have ei : appX T i = x.2.2.app := by funext s; unfold appX; rw [hxi]
    have ej : appX T j = y.2.2.app := by funext s; unfold appX; rw [hxj]
    have ai := hoi x hxi
    have aj := hoj y hxj
    rw [ei] at aj
    have hind' := hind
    simp only [indep, Bool.and_eq_true] at hind'
    obtain ⟨i1, i2, i3, i4, i5, i6, i7, i8, i9, i10, i11, i12, i13, i14⟩ := hind'
    have i15 : apartN (x.2.1.wb.map (·.1)) y.2.1.nb = true := apartN_symm i11
    have i16 : apartN (y.2.1.wb.map (·.1)) x.2.1.nb = true := apartN_symm i9
    have aj' : Agree WB y.2.1 y.1 s := (Agree.app_iff hsi.fits ai i1 i4 i7 i8 i9 i12 i15).1 aj
    refine ⟨fun z hz => ?_, fun z hz => ?_, ?_⟩
    · rw [hxj] at hz; cases hz; exact aj'
    · rw [hxi] at hz; cases hz
      rw [ej]
      exact (Agree.app_iff hsj.fits aj' i3 i6 i10 (apartN_symm i8) i11 i13 i16).2 ai
    · rw [ei, ej]
      exact app_swap hsi.fits hsj.fits ai aj' hind
  · have h1 := List.all_eq_true.1 hb i (List.mem_range.2 (Array.getElem?_eq_some_iff.1 ho).1)
    rw [ho] at h1
    have h5 := Array.all_eq_true_iff_forall_mem.1 h1 e he
    rw [hb'] at h5
    have h6 : e.on + 1 ≤ i := by simpa [Nat.blt] using h5
    omega

theorem evo_congr {g g' : Nat → Option AV} {x : Operand} (h : ∀ t, x = .tmp t → g' t = g t) : evo g' x = evo g x := by
  cases x with
  | tmp t => exact h t rfl
  | _ => rfl
theorem src_congr {g g' : Nat → Option AV} {o : Oper} (h : ∀ t, Operand.tmp t ∈ o.op.operands.toList → g' t = g t) : src P g' o = src P g o := by
  unfold src
  split
  · rfl
  · rfl
  · rename_i T p ho
    rw [h p (by rw [ho]; simp [Op.operands])]
  · rfl
theorem stl_congr {st : List Nat} {g g' : Nat → Option AV} {o : Oper} {d : Nat} {σ : St} (h : src P g' o = src P g o) : stl P st g' o d σ = stl P st g o d σ := by
  unfold stl; rw [h]
theorem lookL_keepZ {l : List (Loc × (TypeId × Nat))} {k o n : Nat} (L : Loc) : lookL (keepL l k o n) L = if hitB k o n L = true then none else lookL l L := by
  induction l with
  | nil => unfold keepL; simp [lookL]
  | cons y l ih =>
    obtain ⟨M, y⟩ := y
    unfold keepL at ih ⊢
    by_cases hM : hitB k o n M = true
    · rw [List.filter_cons_of_neg (by rw [hM]; decide), ih]
      by_cases hL : hitB k o n L = true
      · rw [if_pos hL, if_pos hL]
      · rw [if_neg hL, if_neg hL, lookL_cons, if_neg (fun e => hL (by rw [← e]; exact hM))]
    · rw [List.filter_cons_of_pos (by rw [Bool.not_eq_true] at hM; rw [hM]; rfl), lookL_cons, ih]
      by_cases e : M = L
      · subst e; rw [if_pos rfl, if_neg hM, lookL_cons, if_pos rfl]
      · rw [if_neg e]
        split
        · rfl
        · rw [lookL_cons, if_neg e]
theorem ovr_none : ∀ {l : List (Loc × Option (TypeId × Nat))} {o : List (Loc × (TypeId × Nat))} {M : Loc}, (∀ x ∈ l, x.2 = none) → (∃ x ∈ l, x.1 = M) → lookL (ovr l o) M = none
  | [], _, _, _, h => by obtain ⟨x, hx, _⟩ := h; cases hx
  | (L, r) :: l, o, M, h0, h => by
    rw [lookL_ovr]
    by_cases e : M = L
    · rw [if_pos e]; exact h0 (L, r) List.mem_cons_self
    · rw [if_neg e]
      obtain ⟨x, hx, hM⟩ := h
      rcases List.mem_cons.1 hx with rfl | hx
      · exact absurd hM.symm e
      · exact ovr_none (fun y hy => h0 y (List.mem_cons_of_mem _ hy)) ⟨x, hx, hM⟩
def clrs (k off n : Nat) : List (Loc × Option (TypeId × Nat)) := (List.range n).map fun i => (.b k (off + i), none)
theorem ovr_clrs {k off n : Nat} {o : List (Loc × (TypeId × Nat))} {M : Loc} : lookL (ovr (clrs k off n) o) M = if hitB k off n M = true then none else lookL o M := by
  by_cases h : hitB k off n M = true
  · rw [if_pos h]
    obtain ⟨p, rfl, h1, h2⟩ := hit_inv h
    refine ovr_none (fun x hx => ?_) ⟨(.b k p, none), List.mem_map.2 ⟨p - off, List.mem_range.2 (by omega), by rw [show off + (p - off) = p by omega]⟩, rfl⟩
    obtain ⟨i, _, rfl⟩ := List.mem_map.1 hx
    rfl
  · rw [if_neg h]
    refine ovr_out fun x hx e => h ?_
    obtain ⟨i, hi, rfl⟩ := List.mem_map.1 hx
    subst e
    have := List.mem_range.1 hi
    simp [hitB]; omega
def qOwn (σ : St) (d : Nat) (r : HR) : Option Loc → List (Loc × Option (TypeId × Nat))
  | none => [(.s d, ownOf r)]
  | some S => if S = .s d then [(.s d, ownOf r)] else match lookL σ.own S with
    | some e => [(.s d, some e), (S, none)]
    | none => [(.s d, ownOf r)]
def qEff (σ : St) (d : Nat) (r : HR) (S : Option Loc) : Eff := { slot := some (d, r.av), nbox := (bxOf r).map fun cs => (d, cs), own := qOwn σ d r S }
theorem lookL_steal {σ : St} {D S : Loc} (M : Loc) : lookL (stealSt σ D S).own M = match lookL σ.own S with | some e => if M = D then some e else if M = S then none else lookL σ.own M | none => lookL σ.own M := by
  unfold stealSt
  cases lookL σ.own S with
  | none => rfl
  | some e =>
    dsimp only
    rw [lookL_cons, lookL_del, lookL_del]
    by_cases h : M = D
    · rw [if_pos h.symm, if_pos h]
    · rw [if_neg (fun e => h e.symm), if_neg h, if_neg h]
theorem qEff_eqv {st : List Nat} {g : Nat → Option AV} {o : Oper} {d : Nat} {r : HR} {σ τ : St} (ho : ∀ S, takesS P st g o d = some S → lookL τ.own S = lookL σ.own S) : Eqv (stl P st g o d (τ.res d r)) ((qEff σ d r (takesS P st g o d)).app τ) := by
  have hst : stl P st g o d (τ.res d r) = match takesS P st g o d with | some S => stealSt (τ.res d r) (.s d) S | none => τ.res d r := by
    unfold stl takesS
    split
    · rfl
    · rfl
  rw [hst]
  generalize takesS P st g o d = So at ho
  have hsb : (match So with | some S => stealSt (τ.res d r) (.s d) S | none => τ.res d r).slot = (τ.res d r).slot ∧ (match So with | some S => stealSt (τ.res d r) (.s d) S | none => τ.res d r).box = (τ.res d r).box ∧ (match So with | some S => stealSt (τ.res d r) (.s d) S | none => τ.res d r).ext = (τ.res d r).ext := by
    cases So with
    | none => exact ⟨rfl, rfl, rfl⟩
    | some S =>
      refine ⟨(stealSt_slot _ _ _).1, (stealSt_slot _ _ _).2, ?_⟩
      dsimp only
      unfold stealSt
      split <;> rfl
  refine ⟨fun t => ?_, fun k => ?_, fun L => ?_, ?_⟩
  · rw [hsb.1, res_slot]
    exact look_cons _ _ _ _
  · rw [hsb.2.1, res_box]
    show look (putO ((bxOf r).map fun cs => (d, cs)) τ.box) k = _
    rw [look_putO]
    cases bxOf r <;> rfl
  · show lookL (ovr (qOwn σ d r So) τ.own) L = _
    cases So with
    | none =>
      dsimp only [qOwn]
      rw [lookL_ovr, res_own]
      rfl
    | some S =>
      dsimp only
      rw [lookL_steal]
      simp only [qOwn]
      by_cases hS : S = .s d
      · subst hS
        rw [if_pos rfl, lookL_ovr, res_own, if_pos rfl]
        show (if L = Loc.s d then ownOf r else lookL τ.own L) = _
        cases hq : ownOf r with
        | none => dsimp only; rw [res_own, hq]
        | some e =>
          dsimp only
          rw [res_own]
          by_cases hL : L = .s d
          · rw [if_pos hL, if_pos hL]
          · rw [if_neg hL, if_neg hL, if_neg hL, if_neg hL]
      · rw [if_neg hS]
        have h1 : lookL (τ.res d r).own S = lookL σ.own S := by rw [res_own, if_neg hS]; exact ho S rfl
        rw [h1]
        cases lookL σ.own S with
        | none => dsimp only; rw [lookL_ovr, res_own]; rfl
        | some e =>
          dsimp only
          rw [lookL_ovr, lookL_ovr, res_own]
          by_cases hL : L = .s d
          · rw [if_pos hL, if_pos hL]
          · rw [if_neg hL, if_neg hL, if_neg hL]
            rfl
  · rw [hsb.2.2, res_ext]; rfl
theorem qOwn_wo {σ : St} {d : Nat} {r : HR} {So : Option Loc} {x : Loc × Option (TypeId × Nat)} (h : x ∈ qOwn σ d r So) : x.1 ∈ [Loc.s d] ++ So.toList := by
  cases So with
  | none => simp [qOwn] at h; subst h; simp
  | some S =>
    simp only [qOwn] at h
    split at h
    · simp at h; subst h; simp
    · split at h
      · simp at h
        rcases h with rfl | rfl <;> simp
      · simp at h; subst h; simp
theorem stepQ {st WB : List Nat} {X : List (Nat × List Nat)} {σ : St} {o : Oper} {d : Nat} (hd : o.dst = some d) (hdn : d < F.n) (hg : guardB ops (look σ.slot) o = some true) {K : HR → Prop} (h : hopx P (look σ.slot) (bxf WB (xof X d) (look σ.box)) o K)
    (hbx : ∀ r, K r → if WB.contains d = true then look σ.box d = none ∧ (xof X d).contains d = false else bxOf r = none) :
    ∃ r, K r ∧ StepX P F ops WB σ o (fpOf ops X o (.q (takesS P st (look σ.slot) o d) (WB.contains d))) (qEff σ d r (takesS P st (look σ.slot) o d)) (stl P st (look σ.slot) o d (σ.res d r)) := by
  obtain ⟨r, hK, h1, h2, h3⟩ := hopx_full (F := F) h hd hdn
  have hb := hbx r hK
  have hbk : ∀ {k : Nat} {cs : List PV}, bxf WB (xof X d) (look σ.box) k = some cs → look σ.box k = some cs ∧ (k ∈ xof X d ∨ k ∉ WB) := fun {k cs} hk => by
    unfold bxf at hk
    split at hk
    · cases hk
    · rename_i hc
      refine ⟨hk, ?_⟩
      simp only [Bool.and_eq_true, List.contains_iff_mem, Bool.not_eq_true', not_and, Bool.not_eq_false] at hc
      by_cases hw : k ∈ WB
      · exact .inl (by simpa using hc hw)
      · exact .inr hw
  have hxof : (fpOf ops X o (.q (takesS P st (look σ.slot) o d) (WB.contains d))).rb = xof X d := by simp [fpOf, hd, xof]
  refine ⟨r, hK, ⟨⟨fun x hx => ?_, fun x hx => ?_, fun k off xs hx => (by cases hx), fun x hx => ?_, fun k hk => ?_, fun x hx => (by cases hx)⟩, ⟨fun _ _ => rfl, fun _ _ => rfl, fun _ _ => rfl, fun k o n hk => (by cases hk), fun k hk => ?_, rfl⟩, qEff_eqv fun _ _ => rfl, fun τ γ a w hag hr Q i hi => ?_⟩⟩
  · cases hx; simp [fpOf, hd]
  · simp only [qEff, Option.map_eq_some_iff] at hx
    obtain ⟨cs, hcs, rfl⟩ := hx
    by_cases hw : WB.contains d = true
    · simp only [fpOf, hd, hw]; simp
    · rw [if_neg hw] at hb; rw [hb] at hcs; cases hcs
  · have := qOwn_wo hx
    simpa [fpOf, hd] using this
  · by_cases hw : WB.contains d = true
    · simp [fpOf, hd] at hk
      obtain ⟨hw', rfl⟩ := hk
      exact hw'
    · simp [fpOf, hd] at hk
      exact absurd (by simpa using hk.1) hw
  · by_cases hw : WB.contains d = true
    · rw [if_pos hw] at hb
      simp [fpOf, hd] at hk
      obtain ⟨_, rfl⟩ := hk
      exact hb.1
    · simp [fpOf, hd] at hk
      exact absurd (by simpa using hk.1) hw
  · have hslot : ∀ t, t ∈ o.looksAt ops → look τ.slot t = look σ.slot t := fun t ht => hag.rs t ht
    have hops : ∀ t, Operand.tmp t ∈ o.op.operands.toList → look τ.slot t = look σ.slot t := fun t ht => hslot t (mem_looks ht)
    have hsrc : src P (look τ.slot) o = src P (look σ.slot) o := src_congr hops
    have hboxk : ∀ k cs, bxf WB (xof X d) (look σ.box) k = some cs → look τ.box k = some cs := fun k cs hk => by
      obtain ⟨g1, g2⟩ := hbk hk
      rw [hag.rb k (by rw [hxof]; exact g2)]; exact g1
    unfold wpOp
    rw [hi]
    dsimp only
    rw [guard_ok hr (g := look σ.slot) (fun j want t y hj hdt hy => by rw [hslot t (mem_looks_guard hj hdt)]; exact hy) hg, if_pos rfl]
    refine .inl (Oper.wp_mono (fun a' w' hst => ?_) (h3 τ γ a w hr (fun t y hm hy => by rw [hops t hm]; exact hy) hboxk (fun hk => ?_) Q))
    · obtain ⟨γ', hrel⟩ := stl_ok (st := st) hr hdn (fun S hS => by
        rw [hsrc] at hS
        have h4 := h1 S hS
        cases S with
        | s t => exact (hops t (src_slot hS)).trans h4
        | b k off =>
          show ((look τ.box k).bind (·[off]?)).map PV.av = _
          have h5 : ((bxf WB (xof X d) (look σ.box) k).bind (·[off]?)).map PV.av = some r.av := h4
          cases hq : bxf WB (xof X d) (look σ.box) k with
          | none => rw [hq] at h5; cases h5
          | some cs => rw [hboxk k cs hq]; rw [hq] at h5; exact h5) (h2.imp id fun h => hsrc.trans h) hst
      rw [stl_congr hsrc] at hrel
      have he := qEff_eqv (P := P) (st := st) (g := look σ.slot) (o := o) (d := d) (r := r) (σ := σ) (τ := τ) (fun S hS => hag.ro S (by rw [hS]; simp [fpOf]))
      exact ⟨γ', hrel.congr he.1 he.2.1 he.2.2.1 he.2.2.2⟩
    · by_cases hw : WB.contains d = true
      · exact hag.nb d (by simp [fpOf, hd]; simpa using hw)
      · have hw' : d ∉ WB := by simpa using hw
        rw [hag.rb d (.inr hw')]
        unfold bxf at hk
        rw [if_neg (by simp [hw'])] at hk
        exact hk
theorem stepN {WB : List Nat} {X : List (Nat × List Nat)} {σ : St} {o : Oper} {d : Nat} (hd : o.dst = some d) (hdn : d < F.n) (hg : guardB ops (look σ.slot) o = some false) :
    StepX P F ops WB σ o (fpOf ops X o .no) { slot := some (d, .v undef), own := [(.s d, none)] } (σ.put d (.v undef)) := by
  have heq : ∀ τ : St, Eqv (τ.put d (.v undef)) (({ slot := some (d, .v undef), own := [(.s d, none)] } : Eff).app τ) := fun τ => ⟨fun _ => rfl, fun _ => rfl, fun _ => rfl, rfl⟩
  refine ⟨⟨fun x hx => ?_, fun x hx => (by cases hx), fun k off xs hx => (by cases hx), fun x hx => ?_, fun k hk => (by cases hk), fun x hx => (by cases hx)⟩, ⟨fun _ _ => rfl, fun _ _ => rfl, fun _ _ => rfl, fun k o n hk => (by cases hk), fun k hk => (by cases hk), rfl⟩, heq σ, fun τ γ a w hag hr Q i hi => ?_⟩
  · cases hx; simp [fpOf, hd]
  · simp at hx; subst hx; simp [fpOf, hd]
  · unfold wpOp
    rw [hi]
    dsimp only
    rw [guard_ok hr (g := look σ.slot) (fun j want t y hj hdt hy => by rw [hag.rs t (mem_looks_guard hj hdt)]; exact hy) hg, if_neg (by simp), hd]
    have h1 := hr.put hdn (x := .v undef) (u := undef) rfl (fun k hk => by cases hk)
    exact ⟨γ, h1.congr (heq τ).1 (heq τ).2.1 (heq τ).2.2.1 (heq τ).2.2.2⟩
end
end Av
end Go.Proofs.YtcloigoajohppaaGreatDoor
/- Abstract states: a region that draws its order, with effects: the theorem. Generic. -/
namespace Go.Proofs.YtcloigoajohppaaGreatDoor
open Go.RowKit
namespace Av

section
variable {P : Program} {F : Fr} {ops : Array Oper}
def sOwn (d i : Nat) (e : TypeId) : Option Nat → List (Loc × Option (TypeId × Nat))
  | some t => [(.s d, some (e, i)), (.s t, none)]
  | none => [(.s d, some (e, i))]
theorem stepA {WB : List Nat} {X : List (Nat × List Nat)} {σ : St} {o : Oper} {d : Nat} {args : Array Operand} {ats : Array TypeId} (hop : o.op = .call { callee := .builtin .append, args, argTypes := ats }) (hd : o.dst = some d) (hg : guardB ops (look σ.slot) o = some true)
    {x y : Operand} {T e : TypeId} {i : Nat} {z : Value} {rows rows2 : List (List PV)} {s : Option Nat} (h1 : args.toList = [x, y]) (h2 : ats.toList = [T, T]) (h3 : P.underlying T = some (.slice e)) (h4 : (P.info? e).map (·.size) = some i) (h5 : 0 < i) (h6 : (P.info? e).map (·.zero) = some (some z)) (h7 : z.cells.size = i) (h8 : ((P.info? e).map fun j => decide (j.bytes ≤ 1000000)) = some true) (h9 : d < F.n)
    (h10 : (s = none ∧ rows = [] ∧ evo (look σ.slot) x = some (.v (.slice none 0 0))) ∨ (∃ t, x = .tmp t ∧ s = some t ∧ lookL σ.own (.s t) = some (e, i) ∧ look σ.slot t = some (.sl i rows)))
    (h11 : evo (look σ.slot) y = some (.sl i rows2) ∨ (rows2 = [] ∧ evo (look σ.slot) y = some (.v (.slice none 0 0)))) (h12 : rows.length + rows2.length ≤ 100000000) :
    StepX P F ops WB σ o (fpOf ops X o (.a s)) { slot := some (d, .sl i (rows ++ rows2)), own := sOwn d i e s } ({ σ with own := delS σ.own s }.putOwn d i (rows ++ rows2) e) := by
  have heq : ∀ τ : St, Eqv ({ τ with own := delS τ.own s }.putOwn d i (rows ++ rows2) e) (({ slot := some (d, .sl i (rows ++ rows2)), own := sOwn d i e s } : Eff).app τ) := fun τ => by
    refine ⟨fun _ => rfl, fun _ => rfl, fun L => ?_, rfl⟩
    rw [lookL_putOwn]
    show lookL (ovr (sOwn d i e s) τ.own) L = _
    cases s with
    | none => exact lookL_ovr _ _ _ _ _
    | some t =>
      unfold sOwn delS
      dsimp only
      rw [lookL_ovr, lookL_ovr, lookL_del]
      rfl
  have hmem : ∀ t, x = .tmp t ∨ y = .tmp t → Operand.tmp t ∈ o.op.operands.toList := fun t ht => by
    rw [hop]
    rcases ht with rfl | rfl <;> simp [Op.operands, Call.operands, h1]
  refine ⟨⟨fun w hw => ?_, fun w hw => (by cases hw), fun k off xs hw => (by cases hw), fun w hw => ?_, fun k hk => (by cases hk), fun w hw => (by cases hw)⟩, ⟨fun _ _ => rfl, fun _ _ => rfl, fun _ _ => rfl, fun k o n hk => (by cases hk), fun k hk => (by cases hk), rfl⟩, heq σ, fun τ γ a w hag hr Q j hj => ?_⟩
  · cases hw; simp [fpOf, hd]
  · cases s with
    | none => simp [sOwn] at hw; subst hw; simp [fpOf, hd]
    | some t =>
      simp [sOwn] at hw
      rcases hw with rfl | rfl <;> simp [fpOf, hd]
  · have hslot : ∀ t, t ∈ o.looksAt ops → look τ.slot t = look σ.slot t := fun t ht => hag.rs t ht
    have hops : ∀ t, x = .tmp t ∨ y = .tmp t → look τ.slot t = look σ.slot t := fun t ht => hslot t (mem_looks (hmem t ht))
    have ex : evo (look τ.slot) x = evo (look σ.slot) x := evo_congr fun t ht => hops t (.inl ht)
    have ey : evo (look τ.slot) y = evo (look σ.slot) y := evo_congr fun t ht => hops t (.inr ht)
    unfold wpOp
    rw [hj]
    dsimp only
    rw [guard_ok hr (g := look σ.slot) (fun j want t y hj hdt hy => by rw [hslot t (mem_looks_guard hj hdt)]; exact hy) hg, if_pos rfl]
    refine .inl (Oper.wp_mono (fun a' w' hst => ?_) (append_ok (K := fun σ' => σ' = ({ τ with own := delS τ.own s } : St).putOwn d i (rows ++ rows2) e) hr hop hd ⟨x, y, T, e, i, z, rows, rows2, s, h1, h2, h3, h4, h5, h6, h7, h8, h9, ?_, ?_, h12, rfl⟩ Q))
    · obtain ⟨σ', γ', rfl, hrel⟩ := hst
      exact ⟨γ', hrel.congr (heq τ).1 (heq τ).2.1 (heq τ).2.2.1 (heq τ).2.2.2⟩
    · rcases h10 with ⟨g1, g2, g3⟩ | ⟨t, g1, g2, g3, g4⟩
      · exact .inl ⟨g1, g2, ex.trans g3⟩
      · refine .inr ⟨t, g1, g2, (hag.ro (.s t) (by rw [g2]; simp [fpOf])).trans g3, (hops t (.inl g1)).trans g4⟩
    · rw [ey]; exact h11
def stOwn (σ : St) (k off n : Nat) : Operand → List (Loc × Option (TypeId × Nat))
  | .tmp t => match lookL σ.own (.s t) with
    | some e => (.b k off, some e) :: (.s t, none) :: clrs k off n
    | none => clrs k off n
  | _ => clrs k off n
theorem stOwn_wo {σ : St} {k off n : Nat} {v : Operand} {o : Oper} {T : TypeId} {x' : Operand} (hop : o.op = .store T x' v) {x : Loc × Option (TypeId × Nat)} (h : x ∈ stOwn σ k off n v) : x.1 ∈ stT o ++ (List.range n).map (fun i => Loc.b k (off + i)) ++ [Loc.b k off] := by
  have hc : ∀ x ∈ clrs k off n, x.1 ∈ (List.range n).map (fun i => Loc.b k (off + i)) := fun x hx => by
    obtain ⟨i, hi, rfl⟩ := List.mem_map.1 hx
    exact List.mem_map.2 ⟨i, hi, rfl⟩
  cases v with
  | tmp t =>
    have hs : stT o = [.s t] := by unfold stT; rw [hop]
    rw [hs]
    simp only [stOwn] at h
    split at h
    · rcases List.mem_cons.1 h with rfl | h
      · simp
      · rcases List.mem_cons.1 h with rfl | h
        · simp
        · have := hc x h
          simp only [List.mem_append]
          exact .inl (.inr this)
    · have := hc x h
      simp only [List.mem_append]
      exact .inl (.inr this)
  | _ =>
    have := hc x h
    simp only [List.mem_append]
    exact .inl (.inr this)
theorem stepS {WB : List Nat} {X : List (Nat × List Nat)} {σ : St} {o : Oper} {T : TypeId} {x v : Operand} (hop : o.op = .store T x v) (hd : o.dst = none) (hg : guardB ops (look σ.slot) o = some true)
    {k off : Nat} {u : AV} {cs xs : List PV} (h1 : evo (look σ.slot) x = some (.ref k off)) (h2 : evo (look σ.slot) v = some u) (h3 : look σ.box k = some cs) (h4 : avCells u = some xs) (h5 : (P.info? T).map (·.size) = some xs.length) (h6 : off + xs.length ≤ cs.length) (hW : WB.contains k = true) :
    StepX P F ops WB σ o (fpOf ops X o (.st k off xs.length)) { pat := some (k, off, xs), own := stOwn σ k off xs.length v } (storeSt σ k off cs xs v) := by
  have heq : ∀ (τ : St) (cs1 : List PV), look τ.box k = some cs1 → (∀ t, v = .tmp t → lookL τ.own (.s t) = lookL σ.own (.s t)) → Eqv (storeSt τ k off cs1 xs v) (({ pat := some (k, off, xs), own := stOwn σ k off xs.length v } : Eff).app τ) := fun τ cs1 hc hv => by
    have hbase : ∀ L, lookL (keepL τ.own k off xs.length) L = lookL (ovr (clrs k off xs.length) τ.own) L := fun L => by rw [lookL_keepZ, ovr_clrs]
    have hsl : (storeSt τ k off cs1 xs v).slot = τ.slot ∧ (storeSt τ k off cs1 xs v).box = (k, setAt cs1 off xs) :: τ.box ∧ (storeSt τ k off cs1 xs v).ext = τ.ext := by
      unfold storeSt
      split
      · refine ⟨(stealSt_slot _ _ _).1, (stealSt_slot _ _ _).2, ?_⟩
        unfold stealSt
        split <;> rfl
      · exact ⟨rfl, rfl, rfl⟩
    refine ⟨fun t => by rw [hsl.1]; rfl, fun j => ?_, fun L => ?_, hsl.2.2.symm⟩
    · rw [hsl.2.1]
      show look ((k, setAt ((look τ.box k).getD []) off xs) :: τ.box) j = _
      rw [hc]
      rfl
    · show lookL (ovr (stOwn σ k off xs.length v) τ.own) L = _
      unfold storeSt
      cases v with
      | tmp t =>
        dsimp only [stOwn]
        rw [lookL_steal]
        have hst : lookL (τ.setBox k (setAt cs1 off xs) (keepL τ.own k off xs.length)).own (.s t) = lookL σ.own (.s t) := by
          show lookL (keepL τ.own k off xs.length) (.s t) = _
          rw [lookL_keepZ, if_neg (by simp [hitB])]
          exact hv t rfl
        rw [hst]
        cases lookL σ.own (.s t) with
        | none => exact (hbase L).symm
        | some e =>
          dsimp only
          rw [lookL_ovr, lookL_ovr, ← hbase]
          rfl
      | const c => exact (hbase L).symm
      | func f => exact (hbase L).symm
      | global g => exact (hbase L).symm
  have hmem : ∀ t, x = .tmp t ∨ v = .tmp t → Operand.tmp t ∈ o.op.operands.toList := fun t ht => by
    rw [hop]
    rcases ht with rfl | rfl <;> simp [Op.operands]
  refine ⟨⟨fun w hw => (by cases hw), fun w hw => (by cases hw), fun k' off' xs' hw => ?_, fun w hw => stOwn_wo hop hw, fun k hk => (by cases hk), fun w hw => ?_⟩, ⟨fun _ _ => rfl, fun _ _ => rfl, fun _ _ => rfl, fun k' o' n' hk => ?_, fun k hk => (by cases hk), rfl⟩, heq σ cs h3 (fun _ _ => rfl), fun τ γ a w hag hr Q j hj => ?_⟩
  · cases hw; simp [fpOf]
  · simp [fpOf] at hw; subst hw; simpa using hW
  · simp [fpOf] at hk; obtain ⟨rfl, rfl, rfl⟩ := hk; exact ⟨cs, h3, h6⟩
  · have hslot : ∀ t, t ∈ o.looksAt ops → look τ.slot t = look σ.slot t := fun t ht => hag.rs t ht
    have hops : ∀ t, x = .tmp t ∨ v = .tmp t → look τ.slot t = look σ.slot t := fun t ht => hslot t (mem_looks (hmem t ht))
    obtain ⟨cs1, c1, c2⟩ := hag.wb k off xs.length (by simp [fpOf])
    unfold wpOp
    rw [hj]
    dsimp only
    rw [guard_ok hr (g := look σ.slot) (fun j want t y hj hdt hy => by rw [hslot t (mem_looks_guard hj hdt)]; exact hy) hg, if_pos rfl]
    refine .inl (Oper.wp_mono (fun a' w' hst => ?_) (store_ok (K := fun σ' => σ' = storeSt τ k off cs1 xs v) hr hop hd ((evo_congr fun t ht => hops t (.inl ht)).trans h1) ((evo_congr fun t ht => hops t (.inr ht)).trans h2) c1 h4 h5 c2 rfl Q))
    obtain ⟨σ', γ', rfl, hrel⟩ := hst
    have he := heq τ cs1 c1 (fun t ht => hag.ro (.s t) (by
      show Loc.s t ∈ stT o
      unfold stT; rw [hop, ht]; simp))
    exact ⟨γ', hrel.congr he.1 he.2.1 he.2.2.1 he.2.2.2⟩
theorem sopX_step {st WB : List Nat} {X : List (Nat × List Nat)} {σ : St} {o : Oper} {K : St → Dy → Prop} (hg : guardB ops (look σ.slot) o = some true) (h : sopX P F.n st WB X σ o K) : ∃ E σ' f, StepX P F ops WB σ o (fpOf ops X o f) E σ' ∧ K σ' f := by
  unfold sopX at h
  split at h
  · rename_i T x v hop hd
    obtain ⟨k, off, u, cs, xs, h1, h2, h3, h4, h5, h6, h7, hK⟩ := h
    exact ⟨_, _, _, stepS hop hd hg h1 h2 h3 h4 h5 h6 h7, hK⟩
  · rename_i args ats d hop hd
    obtain ⟨x, y, T, e, i, z, rows, rows2, s, h1, h2, h3, h4, h5, h6, h7, h8, h9, h10, h11, h12, hK⟩ := h
    exact ⟨_, _, _, stepA hop hd hg h1 h2 h3 h4 h5 h6 h7 h8 h9 h10 h11 h12, hK⟩
  · rename_i hd _
    obtain ⟨hdn, hx⟩ := h
    obtain ⟨r, hK, hs⟩ := stepQ (ops := ops) (X := X) hd hdn hg hx (fun r hr => hr.1)
    exact ⟨_, _, _, hs, hK.2⟩
  · cases h
theorem sopsX_run {st WB : List Nat} {X : List (Nat × List Nat)} {K : St → List Dy → Prop} : ∀ {l : List Oper} {σ : St} {fs : List Dy}, sopsX P F.n st WB X ops l σ fs K → ∃ T σ' gs, RunX P F ops WB l σ T σ' ∧ T.map (fun x => x.2.1) = fpsOf ops X l gs ∧ gs.length = l.length ∧ K σ' (gs.reverse ++ fs)
  | [], σ, fs, h => ⟨[], σ, [], .nil, rfl, rfl, h⟩
  | o :: l, σ, fs, h => by
    unfold sopsX at h
    split at h
    · rename_i hg
      obtain ⟨E, σ1, f, hs, hK⟩ := sopX_step (ops := ops) hg h
      obtain ⟨T, σ', gs, h1, h2, h3, h4⟩ := sopsX_run hK
      exact ⟨_, σ', f :: gs, .cons hs h1, by rw [List.map_cons, h2]; rfl, by rw [List.length_cons, List.length_cons, h3], by rw [List.reverse_cons, List.append_assoc]; exact h4⟩
    · rename_i hg
      obtain ⟨d, hd, hdn, hK⟩ := h
      obtain ⟨T, σ', gs, h1, h2, h3, h4⟩ := sopsX_run hK
      exact ⟨_, σ', .no :: gs, .cons (stepN (X := X) hd hdn hg) h1, by rw [List.map_cons, h2]; rfl, by rw [List.length_cons, List.length_cons, h3], by rw [List.reverse_cons, List.append_assoc]; exact h4⟩
    · cases h
theorem indAll_spec {X : List (Nat × List Nat)} {l : List Oper} {gs : List Dy} (h : indAll ops X l gs.reverse = true) {i j : Nat} {f g : FP} (hij : i < j) (hi : (fpsOf ops X l gs)[i]? = some f) (hj : (fpsOf ops X l gs)[j]? = some g) (hw : Region.waitsFor .any ops j i = false) : indep f g = true := by
  unfold indAll at h
  rw [List.reverse_reverse] at h
  have h1 := List.all_eq_true.1 (List.all_eq_true.1 h (g, j) (List.mem_zipIdx_iff_getElem?.2 hj)) (f, i) (List.mem_zipIdx_iff_getElem?.2 hi)
  simp only [hw, Bool.false_or, Bool.or_eq_true, Bool.not_eq_true'] at h1
  rcases h1 with h1 | h1
  · have h2 : Nat.blt i j = true := by
      unfold Nat.blt
      exact Nat.ble_eq_true_of_le hij
    rw [h2] at h1; cases h1
  · exact h1
theorem awp_any {id : Nat} {l : List Oper} {Q : AX → St → Prop} {σ : St} (st WB : List Nat) (X : List (Nat × List Nat)) (hm : P.follows .mixedOrders = true) (hb : backB l.toArray = true)
    (h : sopsX P F.n st WB X l.toArray l σ [] fun σ' fs => indAll l.toArray X l fs = true ∧ Q .normal σ') : AWp P F (Code.region id l.toArray true) Q σ := by
  intro γ a w hr
  obtain ⟨T, σ', gs, hrun, hT, hgl, hind, hQ⟩ := sopsX_run h
  rw [List.append_nil] at hind
  have hlen := hrun.length
  have hsw := hrun.swap hb (fun i j x y hij hx hy hw => indAll_spec hind hij (by rw [← hT, List.getElem?_map, hx]; rfl) (by rw [← hT, List.getElem?_map, hy]; rfl) hw)
  obtain ⟨hc1, hc2⟩ := hrun.chain (T0 := T) 0 σ rfl (Eqv.refl σ)
  refine wp_region_any hm ?_
  have hsz : l.toArray.size = l.length := by simp
  refine wpAny_swap (R := fun s a w => ∃ γ, Rel F s γ a w) (app := appX T) hsw (fun {s t a w} he hr => ?_) (fun i hi s a w hok hr => ?_) (sF := σ') (fun a w hr => ?_) l.toArray.size (List.range' 0 l.length) (Array.replicate l.toArray.size false) σ a w.drew (by simp) ?_ (by simp) (fun i hi => ?_) (fun i hi => ?_) ⟨γ, hr.grow (Below.refl _ _).drew⟩ hc1 hc2
  · obtain ⟨γ, hr⟩ := hr
    exact ⟨γ, hr.congr he.1 he.2.1 he.2.2.1 he.2.2.2⟩
  · obtain ⟨γ, hr⟩ := hr
    have hi' : i < T.length := by rw [hlen, ← hsz]; exact hi
    have hx : T[i]? = some T[i] := List.getElem?_eq_getElem hi'
    generalize T[i] = x at hx
    obtain ⟨o, σ1, ho, hs⟩ := hrun.at hx
    have ei : appX T i = x.2.2.app := by funext s; unfold appX; rw [hx]
    rw [ei]
    exact hs.run s γ a w (hok x hx) hr _ i (by simpa using ho)
  · obtain ⟨γ, hr⟩ := hr
    exact ⟨.normal, σ', γ, rfl, hQ, hr⟩
  · exact List.pairwise_lt_range'
  · simp at hi
    simp [hi]
  · rw [hsz]
    have := List.mem_range'_1.1 hi
    omega
end
theorem sopsX_go {P : Program} {n : Nat} {st WB : List Nat} {X : List (Nat × List Nat)} {ops : Array Oper} {o : Oper} {l : List Oper} {σ : St} {fs : List Dy} {K : St → List Dy → Prop} (h : match guardB ops (look σ.slot) o with
    | some true => sopX P n st WB X σ o fun σ' f => sopsX P n st WB X ops l σ' (f :: fs) K
    | some false => ∃ d, o.dst = some d ∧ d < n ∧ sopsX P n st WB X ops l (σ.put d (.v undef)) (.no :: fs) K
    | none => False) : sopsX P n st WB X ops (o :: l) σ fs K := h
theorem sopsX_end {P : Program} {n : Nat} {st WB : List Nat} {X : List (Nat × List Nat)} {ops : Array Oper} {σ : St} {fs : List Dy} {K : St → List Dy → Prop} (h : K σ fs) : sopsX P n st WB X ops [] σ fs K := h
end Av
end Go.Proofs.YtcloigoajohppaaGreatDoor
/- Abstract states: contracts that were proved over memory, lifted. Generic. -/
namespace Go.Proofs.YtcloigoajohppaaGreatDoor
open Go.RowKit
namespace Av

theorem lies_of_rep {w : World} {R : Reader} {sz : Nat} {xs : List (List Value)} {u : Value} (hR : ∀ p v, R p = some v → w.cell? p = some v) (hs : 0 < sz) (h : RepP R (.sl sz (xs.map fun row => row.map PV.v)) u) :
    ∃ A cap, u = .slice A xs.length cap ∧ Lies w w.heap.size sz A xs := by
  generalize hrows : (xs.map fun row => row.map PV.v) = rows at h
  cases h with
  | sl _ _ A cap f hsz hA hf hc =>
    have hlen : rows.length = xs.length := by rw [← hrows]; simp
    refine ⟨A, cap, by rw [hlen], fun hne => ?_⟩
    have hget : ∀ (k : Nat) (row : List Value), xs[k]? = some row → rows[k]? = some (row.map PV.v) := fun k row hk => by rw [← hrows, List.getElem?_map, hk]; rfl
    rcases hA with h0 | ⟨b, off, rfl, hA⟩
    · exfalso
      apply hne
      rw [h0] at hlen
      exact List.eq_nil_of_length_eq_zero hlen.symm
    · have hcell : ∀ (k : Nat) (row : List Value), xs[k]? = some row → ∀ (j : Nat) (x : Value), row[j]? = some x → w.cell? ⟨b, off + k * sz + j, none⟩ = some x := fun k row hk j x hj => by
        have h1 : (row.map PV.v)[j]? = some (.v x) := by rw [List.getElem?_map, hj]; rfl
        have h2 := hf k _ j _ (hget k row hk) h1
        have h3 := hA k _ j _ (hget k row hk) h1
        have h4 : f k j = x := by
          generalize f k j = y at h2
          cases h2
          rfl
        rw [← h4]
        exact hR _ _ h3
      refine ⟨b, off, rfl, ?_, hcell⟩
      cases xs with
      | nil => exact absurd rfl hne
      | cons row xs =>
        have h1 := hsz 0 _ (hget 0 row rfl)
        have h2 : 0 < row.length := by rw [List.length_map] at h1; omega
        exact Rel.cell_lt (hcell 0 row rfl 0 row[0] (List.getElem?_eq_getElem h2))
end Av
end Go.Proofs.YtcloigoajohppaaGreatDoor
/- Abstract data: numbers, bytes; slices. -/
namespace Go.Proofs.YtcloigoajohppaaGreatDoor
open Go.RowKit
open Av
set_option maxRecDepth 100000
set_option linter.unusedSimpArgs false

abbrev iv (n : Int) : AV := .v (.int .i64 n)
abbrev ip (n : Int) : PV := .v (.int .i64 n)
abbrev bv (b : Bool) : AV := .v (.bool b)
end Go.Proofs.YtcloigoajohppaaGreatDoor
/- Sizes and zero values of types. -/
namespace Go.Proofs.YtcloigoajohppaaGreatDoor
open Go.RowKit
open Av
set_option maxRecDepth 100000
set_option linter.unusedSimpArgs false
theorem all_arr {α : Type} {l : List α} {p : α → Bool} {n : Nat} (h : n = l.length) : l.toArray.all p 0 n = l.all p := by subst h; simp
theorem loc_ss (a b : Nat) : (Loc.s a == Loc.s b) = (a == b) := by rw [Bool.eq_iff_iff, beq_iff_eq, beq_iff_eq, Loc.s.injEq]
theorem loc_sb (a b c : Nat) : (Loc.s a == Loc.b b c) = false := by rw [beq_eq_false_iff_ne]; exact fun h => by cases h
theorem loc_bs (a b c : Nat) : (Loc.b b c == Loc.s a) = false := by rw [beq_eq_false_iff_ne]; exact fun h => by cases h
theorem loc_bb (a b c d : Nat) : (Loc.b a b == Loc.b c d) = (a == c && b == d) := by rw [Bool.eq_iff_iff, Bool.and_eq_true, beq_iff_eq, beq_iff_eq, beq_iff_eq, Loc.b.injEq]
theorem arr_two {α : Type} (a b c : α) : ((#[a, b] : Array α) = #[c]) = False := eq_false fun h => by have := congrArg Array.size h; simp at this
theorem rg1 : List.range 1 = [0] := by decide
theorem rg2 : List.range 2 = [0, 1] := by decide
theorem rg3 : List.range 3 = [0, 1, 2] := by decide
theorem rg4 : List.range 4 = [0, 1, 2, 3] := by decide
theorem rg5 : List.range 5 = [0, 1, 2, 3, 4] := by decide
theorem rg6 : List.range 6 = [0, 1, 2, 3, 4, 5] := by decide
theorem rg7 : List.range 7 = [0, 1, 2, 3, 4, 5, 6] := by decide
theorem rg8 : List.range 8 = [0, 1, 2, 3, 4, 5, 6, 7] := by decide
theorem arr_one {α : Type} (a b : α) : ((#[a] : Array α) = #[b]) = (a = b) := by simp
theorem Tryz.sz3 : (Tryz.prog.info? 3).map (·.size) = some 1 := by kernel_rfl
theorem Tryz.zr3 : (Tryz.prog.info? 3).map (·.zero) = some (some (.int .i64 0)) := by kernel_rfl
theorem Tryz.pl3 (k : Nat) : (Tryz.prog.info? 3).map (fun t => (k, t.size)) = some (k, 1) := by
  have h := Tryz.sz3
  cases hi : Tryz.prog.info? 3 with
  | none => rw [hi] at h; cases h
  | some i => rw [hi] at h; simp only [Option.map_some, Option.some.injEq] at h ⊢; rw [h]
theorem Tryz.is3 : (Tryz.prog.info? 3).isSome = true := by kernel_rfl
theorem Tryz.by3 : (Tryz.prog.info? 3).map (fun j => decide (j.bytes ≤ 1000000)) = some true := by kernel_rfl
theorem Tryz.sz4 : (Tryz.prog.info? 4).map (·.size) = some 1 := by kernel_rfl
theorem Tryz.zr4 : (Tryz.prog.info? 4).map (·.zero) = some (some (.bool false)) := by kernel_rfl
theorem Tryz.pl4 (k : Nat) : (Tryz.prog.info? 4).map (fun t => (k, t.size)) = some (k, 1) := by
  have h := Tryz.sz4
  cases hi : Tryz.prog.info? 4 with
  | none => rw [hi] at h; cases h
  | some i => rw [hi] at h; simp only [Option.map_some, Option.some.injEq] at h ⊢; rw [h]
theorem Tryz.is4 : (Tryz.prog.info? 4).isSome = true := by kernel_rfl
theorem Tryz.by4 : (Tryz.prog.info? 4).map (fun j => decide (j.bytes ≤ 1000000)) = some true := by kernel_rfl
theorem Tryz.sz9 : (Tryz.prog.info? 9).map (·.size) = some 1 := by kernel_rfl
theorem Tryz.zr9 : (Tryz.prog.info? 9).map (·.zero) = some (some (.string ⟨#[]⟩)) := by kernel_rfl
theorem Tryz.pl9 (k : Nat) : (Tryz.prog.info? 9).map (fun t => (k, t.size)) = some (k, 1) := by
  have h := Tryz.sz9
  cases hi : Tryz.prog.info? 9 with
  | none => rw [hi] at h; cases h
  | some i => rw [hi] at h; simp only [Option.map_some, Option.some.injEq] at h ⊢; rw [h]
theorem Tryz.is9 : (Tryz.prog.info? 9).isSome = true := by kernel_rfl
theorem Tryz.by9 : (Tryz.prog.info? 9).map (fun j => decide (j.bytes ≤ 1000000)) = some true := by kernel_rfl
theorem Tryz.sz5 : (Tryz.prog.info? 5).map (·.size) = some 1 := by kernel_rfl
theorem Tryz.zr5 : (Tryz.prog.info? 5).map (·.zero) = some (some (.int .u8 0)) := by kernel_rfl
theorem Tryz.pl5 (k : Nat) : (Tryz.prog.info? 5).map (fun t => (k, t.size)) = some (k, 1) := by
  have h := Tryz.sz5
  cases hi : Tryz.prog.info? 5 with
  | none => rw [hi] at h; cases h
  | some i => rw [hi] at h; simp only [Option.map_some, Option.some.injEq] at h ⊢; rw [h]
theorem Tryz.is5 : (Tryz.prog.info? 5).isSome = true := by kernel_rfl
theorem Tryz.by5 : (Tryz.prog.info? 5).map (fun j => decide (j.bytes ≤ 1000000)) = some true := by kernel_rfl
theorem Tryz.sz56 : (Tryz.prog.info? 56).map (·.size) = some 1 := by kernel_rfl
theorem Tryz.zr56 : (Tryz.prog.info? 56).map (·.zero) = some (some (.slice none 0 0)) := by kernel_rfl
theorem Tryz.pl56 (k : Nat) : (Tryz.prog.info? 56).map (fun t => (k, t.size)) = some (k, 1) := by
  have h := Tryz.sz56
  cases hi : Tryz.prog.info? 56 with
  | none => rw [hi] at h; cases h
  | some i => rw [hi] at h; simp only [Option.map_some, Option.some.injEq] at h ⊢; rw [h]
theorem Tryz.is56 : (Tryz.prog.info? 56).isSome = true := by kernel_rfl
theorem Tryz.by56 : (Tryz.prog.info? 56).map (fun j => decide (j.bytes ≤ 1000000)) = some true := by kernel_rfl
theorem Tryz.sz24 : (Tryz.prog.info? 24).map (·.size) = some 1 := by kernel_rfl
theorem Tryz.zr24 : (Tryz.prog.info? 24).map (·.zero) = some (some (.slice none 0 0)) := by kernel_rfl
theorem Tryz.pl24 (k : Nat) : (Tryz.prog.info? 24).map (fun t => (k, t.size)) = some (k, 1) := by
  have h := Tryz.sz24
  cases hi : Tryz.prog.info? 24 with
  | none => rw [hi] at h; cases h
  | some i => rw [hi] at h; simp only [Option.map_some, Option.some.injEq] at h ⊢; rw [h]
theorem Tryz.is24 : (Tryz.prog.info? 24).isSome = true := by kernel_rfl
theorem Tryz.by24 : (Tryz.prog.info? 24).map (fun j => decide (j.bytes ≤ 1000000)) = some true := by kernel_rfl
theorem Tryz.sz70 : (Tryz.prog.info? 70).map (·.size) = some 1 := by kernel_rfl
theorem Tryz.zr70 : (Tryz.prog.info? 70).map (·.zero) = some (some (.pointer none)) := by kernel_rfl
theorem Tryz.pl70 (k : Nat) : (Tryz.prog.info? 70).map (fun t => (k, t.size)) = some (k, 1) := by
  have h := Tryz.sz70
  cases hi : Tryz.prog.info? 70 with
  | none => rw [hi] at h; cases h
  | some i => rw [hi] at h; simp only [Option.map_some, Option.some.injEq] at h ⊢; rw [h]
theorem Tryz.is70 : (Tryz.prog.info? 70).isSome = true := by kernel_rfl
theorem Tryz.by70 : (Tryz.prog.info? 70).map (fun j => decide (j.bytes ≤ 1000000)) = some true := by kernel_rfl
theorem Tryz.sz69 : (Tryz.prog.info? 69).map (·.size) = some 1 := by kernel_rfl
theorem Tryz.zr69 : (Tryz.prog.info? 69).map (·.zero) = some (some (.pointer none)) := by kernel_rfl
theorem Tryz.pl69 (k : Nat) : (Tryz.prog.info? 69).map (fun t => (k, t.size)) = some (k, 1) := by
  have h := Tryz.sz69
  cases hi : Tryz.prog.info? 69 with
  | none => rw [hi] at h; cases h
  | some i => rw [hi] at h; simp only [Option.map_some, Option.some.injEq] at h ⊢; rw [h]
theorem Tryz.is69 : (Tryz.prog.info? 69).isSome = true := by kernel_rfl
theorem Tryz.by69 : (Tryz.prog.info? 69).map (fun j => decide (j.bytes ≤ 1000000)) = some true := by kernel_rfl
theorem Tryz.sz72 : (Tryz.prog.info? 72).map (·.size) = some 2 := by kernel_rfl
theorem Tryz.zr72 : (Tryz.prog.info? 72).map (·.zero) = some (some (.agg #[.pointer none, .slice none 0 0])) := by kernel_rfl
theorem Tryz.pl72 (k : Nat) : (Tryz.prog.info? 72).map (fun t => (k, t.size)) = some (k, 2) := by
  have h := Tryz.sz72
  cases hi : Tryz.prog.info? 72 with
  | none => rw [hi] at h; cases h
  | some i => rw [hi] at h; simp only [Option.map_some, Option.some.injEq] at h ⊢; rw [h]
theorem Tryz.is72 : (Tryz.prog.info? 72).isSome = true := by kernel_rfl
theorem Tryz.by72 : (Tryz.prog.info? 72).map (fun j => decide (j.bytes ≤ 1000000)) = some true := by kernel_rfl
theorem Tryz.sz74 : (Tryz.prog.info? 74).map (·.size) = some 3 := by kernel_rfl
theorem Tryz.zr74 : (Tryz.prog.info? 74).map (·.zero) = some (some (.agg #[.pointer none, .slice none 0 0, .bool false])) := by kernel_rfl
theorem Tryz.pl74 (k : Nat) : (Tryz.prog.info? 74).map (fun t => (k, t.size)) = some (k, 3) := by
  have h := Tryz.sz74
  cases hi : Tryz.prog.info? 74 with
  | none => rw [hi] at h; cases h
  | some i => rw [hi] at h; simp only [Option.map_some, Option.some.injEq] at h ⊢; rw [h]
theorem Tryz.is74 : (Tryz.prog.info? 74).isSome = true := by kernel_rfl
theorem Tryz.by74 : (Tryz.prog.info? 74).map (fun j => decide (j.bytes ≤ 1000000)) = some true := by kernel_rfl
theorem Tryz.sz117 : (Tryz.prog.info? 117).map (·.size) = some 1 := by kernel_rfl
theorem Tryz.zr117 : (Tryz.prog.info? 117).map (·.zero) = some (some (.nilIface)) := by kernel_rfl
theorem Tryz.pl117 (k : Nat) : (Tryz.prog.info? 117).map (fun t => (k, t.size)) = some (k, 1) := by
  have h := Tryz.sz117
  cases hi : Tryz.prog.info? 117 with
  | none => rw [hi] at h; cases h
  | some i => rw [hi] at h; simp only [Option.map_some, Option.some.injEq] at h ⊢; rw [h]
theorem Tryz.is117 : (Tryz.prog.info? 117).isSome = true := by kernel_rfl
theorem Tryz.by117 : (Tryz.prog.info? 117).map (fun j => decide (j.bytes ≤ 1000000)) = some true := by kernel_rfl
theorem Tryz.sz182 : (Tryz.prog.info? 182).map (·.size) = some 1 := by kernel_rfl
theorem Tryz.zr182 : (Tryz.prog.info? 182).map (·.zero) = some (some (.pointer none)) := by kernel_rfl
theorem Tryz.pl182 (k : Nat) : (Tryz.prog.info? 182).map (fun t => (k, t.size)) = some (k, 1) := by
  have h := Tryz.sz182
  cases hi : Tryz.prog.info? 182 with
  | none => rw [hi] at h; cases h
  | some i => rw [hi] at h; simp only [Option.map_some, Option.some.injEq] at h ⊢; rw [h]
theorem Tryz.is182 : (Tryz.prog.info? 182).isSome = true := by kernel_rfl
theorem Tryz.by182 : (Tryz.prog.info? 182).map (fun j => decide (j.bytes ≤ 1000000)) = some true := by kernel_rfl
theorem Tryz.sz64 : (Tryz.prog.info? 64).map (·.size) = some 6 := by kernel_rfl
theorem Tryz.zr64 : (Tryz.prog.info? 64).map (·.zero) = some (some (.agg #[.int .i64 0, .int .i64 0, .int .i64 0, .int .i64 0, .int .i64 0, .int .i64 0])) := by kernel_rfl
theorem Tryz.pl64 (k : Nat) : (Tryz.prog.info? 64).map (fun t => (k, t.size)) = some (k, 6) := by
  have h := Tryz.sz64
  cases hi : Tryz.prog.info? 64 with
  | none => rw [hi] at h; cases h
  | some i => rw [hi] at h; simp only [Option.map_some, Option.some.injEq] at h ⊢; rw [h]
theorem Tryz.is64 : (Tryz.prog.info? 64).isSome = true := by kernel_rfl
theorem Tryz.by64 : (Tryz.prog.info? 64).map (fun j => decide (j.bytes ≤ 1000000)) = some true := by kernel_rfl
theorem Tryz.sz67 : (Tryz.prog.info? 67).map (·.size) = some 7 := by kernel_rfl
theorem Tryz.zr67 : (Tryz.prog.info? 67).map (·.zero) = some (some (.agg #[.int .i64 0, .int .i64 0, .int .i64 0, .int .i64 0, .int .i64 0, .int .i64 0, .slice none 0 0])) := by kernel_rfl
theorem Tryz.pl67 (k : Nat) : (Tryz.prog.info? 67).map (fun t => (k, t.size)) = some (k, 7) := by
  have h := Tryz.sz67
  cases hi : Tryz.prog.info? 67 with
  | none => rw [hi] at h; cases h
  | some i => rw [hi] at h; simp only [Option.map_some, Option.some.injEq] at h ⊢; rw [h]
theorem Tryz.is67 : (Tryz.prog.info? 67).isSome = true := by kernel_rfl
theorem Tryz.by67 : (Tryz.prog.info? 67).map (fun j => decide (j.bytes ≤ 1000000)) = some true := by kernel_rfl
theorem Tryz.sz26 : (Tryz.prog.info? 26).map (·.size) = some 6 := by kernel_rfl
theorem Tryz.zr26 : (Tryz.prog.info? 26).map (·.zero) = some (some (.agg #[.int .i64 0, .slice none 0 0, .int .i64 0, .int .i64 0, .slice none 0 0, .slice none 0 0])) := by kernel_rfl
theorem Tryz.pl26 (k : Nat) : (Tryz.prog.info? 26).map (fun t => (k, t.size)) = some (k, 6) := by
  have h := Tryz.sz26
  cases hi : Tryz.prog.info? 26 with
  | none => rw [hi] at h; cases h
  | some i => rw [hi] at h; simp only [Option.map_some, Option.some.injEq] at h ⊢; rw [h]
theorem Tryz.is26 : (Tryz.prog.info? 26).isSome = true := by kernel_rfl
theorem Tryz.by26 : (Tryz.prog.info? 26).map (fun j => decide (j.bytes ≤ 1000000)) = some true := by kernel_rfl
theorem Tryz.sz30 : (Tryz.prog.info? 30).map (·.size) = some 3 := by kernel_rfl
theorem Tryz.zr30 : (Tryz.prog.info? 30).map (·.zero) = some (some (.agg #[.int .i64 0, .int .i64 0, .slice none 0 0])) := by kernel_rfl
theorem Tryz.pl30 (k : Nat) : (Tryz.prog.info? 30).map (fun t => (k, t.size)) = some (k, 3) := by
  have h := Tryz.sz30
  cases hi : Tryz.prog.info? 30 with
  | none => rw [hi] at h; cases h
  | some i => rw [hi] at h; simp only [Option.map_some, Option.some.injEq] at h ⊢; rw [h]
theorem Tryz.is30 : (Tryz.prog.info? 30).isSome = true := by kernel_rfl
theorem Tryz.by30 : (Tryz.prog.info? 30).map (fun j => decide (j.bytes ≤ 1000000)) = some true := by kernel_rfl
theorem Tryz.sz126 : (Tryz.prog.info? 126).map (·.size) = some 3 := by kernel_rfl
theorem Tryz.zr126 : (Tryz.prog.info? 126).map (·.zero) = some (some (.agg #[.int .i64 0, .int .i64 0, .int .i64 0])) := by kernel_rfl
theorem Tryz.pl126 (k : Nat) : (Tryz.prog.info? 126).map (fun t => (k, t.size)) = some (k, 3) := by
  have h := Tryz.sz126
  cases hi : Tryz.prog.info? 126 with
  | none => rw [hi] at h; cases h
  | some i => rw [hi] at h; simp only [Option.map_some, Option.some.injEq] at h ⊢; rw [h]
theorem Tryz.is126 : (Tryz.prog.info? 126).isSome = true := by kernel_rfl
theorem Tryz.by126 : (Tryz.prog.info? 126).map (fun j => decide (j.bytes ≤ 1000000)) = some true := by kernel_rfl
theorem Tryz.sz79 : (Tryz.prog.info? 79).map (·.size) = some 5 := by kernel_rfl
theorem Tryz.zr79 : (Tryz.prog.info? 79).map (·.zero) = some (some (.agg #[.int .i64 0, .int .i64 0, .int .i64 0, .int .i64 0, .int .i64 0])) := by kernel_rfl
theorem Tryz.pl79 (k : Nat) : (Tryz.prog.info? 79).map (fun t => (k, t.size)) = some (k, 5) := by
  have h := Tryz.sz79
  cases hi : Tryz.prog.info? 79 with
  | none => rw [hi] at h; cases h
  | some i => rw [hi] at h; simp only [Option.map_some, Option.some.injEq] at h ⊢; rw [h]
theorem Tryz.is79 : (Tryz.prog.info? 79).isSome = true := by kernel_rfl
theorem Tryz.by79 : (Tryz.prog.info? 79).map (fun j => decide (j.bytes ≤ 1000000)) = some true := by kernel_rfl
theorem Tryz.sz81 : (Tryz.prog.info? 81).map (·.size) = some 7 := by kernel_rfl
theorem Tryz.zr81 : (Tryz.prog.info? 81).map (·.zero) = some (some (.agg #[.int .i64 0, .bool false, .int .i64 0, .int .i64 0, .int .i64 0, .int .i64 0, .int .i64 0])) := by kernel_rfl
theorem Tryz.pl81 (k : Nat) : (Tryz.prog.info? 81).map (fun t => (k, t.size)) = some (k, 7) := by
  have h := Tryz.sz81
  cases hi : Tryz.prog.info? 81 with
  | none => rw [hi] at h; cases h
  | some i => rw [hi] at h; simp only [Option.map_some, Option.some.injEq] at h ⊢; rw [h]
theorem Tryz.is81 : (Tryz.prog.info? 81).isSome = true := by kernel_rfl
theorem Tryz.by81 : (Tryz.prog.info? 81).map (fun j => decide (j.bytes ≤ 1000000)) = some true := by kernel_rfl
theorem Tryz.sz83 : (Tryz.prog.info? 83).map (·.size) = some 5 := by kernel_rfl
theorem Tryz.zr83 : (Tryz.prog.info? 83).map (·.zero) = some (some (.agg #[.int .i64 0, .int .i64 0, .int .i64 0, .int .i64 0, .int .i64 0])) := by kernel_rfl
theorem Tryz.pl83 (k : Nat) : (Tryz.prog.info? 83).map (fun t => (k, t.size)) = some (k, 5) := by
  have h := Tryz.sz83
  cases hi : Tryz.prog.info? 83 with
  | none => rw [hi] at h; cases h
  | some i => rw [hi] at h; simp only [Option.map_some, Option.some.injEq] at h ⊢; rw [h]
theorem Tryz.is83 : (Tryz.prog.info? 83).isSome = true := by kernel_rfl
theorem Tryz.by83 : (Tryz.prog.info? 83).map (fun j => decide (j.bytes ≤ 1000000)) = some true := by kernel_rfl
theorem Tryz.sz85 : (Tryz.prog.info? 85).map (·.size) = some 3 := by kernel_rfl
theorem Tryz.zr85 : (Tryz.prog.info? 85).map (·.zero) = some (some (.agg #[.int .i64 0, .int .i64 0, .int .i64 0])) := by kernel_rfl
theorem Tryz.pl85 (k : Nat) : (Tryz.prog.info? 85).map (fun t => (k, t.size)) = some (k, 3) := by
  have h := Tryz.sz85
  cases hi : Tryz.prog.info? 85 with
  | none => rw [hi] at h; cases h
  | some i => rw [hi] at h; simp only [Option.map_some, Option.some.injEq] at h ⊢; rw [h]
theorem Tryz.is85 : (Tryz.prog.info? 85).isSome = true := by kernel_rfl
theorem Tryz.by85 : (Tryz.prog.info? 85).map (fun j => decide (j.bytes ≤ 1000000)) = some true := by kernel_rfl
theorem Tryz.sz35 : (Tryz.prog.info? 35).map (·.size) = some 15 := by kernel_rfl
theorem Tryz.zr35 : (Tryz.prog.info? 35).map (·.zero) = some (some (.agg #[.int .i64 0, .slice none 0 0, .int .i64 0, .int .i64 0, .slice none 0 0, .slice none 0 0, .slice none 0 0, .slice none 0 0, .int .i64 0, .int .i64 0, .slice none 0 0, .slice none 0 0, .slice none 0 0, .slice none 0 0, .int .i64 0])) := by kernel_rfl
theorem Tryz.pl35 (k : Nat) : (Tryz.prog.info? 35).map (fun t => (k, t.size)) = some (k, 15) := by
  have h := Tryz.sz35
  cases hi : Tryz.prog.info? 35 with
  | none => rw [hi] at h; cases h
  | some i => rw [hi] at h; simp only [Option.map_some, Option.some.injEq] at h ⊢; rw [h]
theorem Tryz.is35 : (Tryz.prog.info? 35).isSome = true := by kernel_rfl
theorem Tryz.by35 : (Tryz.prog.info? 35).map (fun j => decide (j.bytes ≤ 1000000)) = some true := by kernel_rfl
theorem Tryz.sz88 : (Tryz.prog.info? 88).map (·.size) = some 2 := by kernel_rfl
theorem Tryz.zr88 : (Tryz.prog.info? 88).map (·.zero) = some (some (.agg #[.string ⟨#[]⟩, .bool false])) := by kernel_rfl
theorem Tryz.pl88 (k : Nat) : (Tryz.prog.info? 88).map (fun t => (k, t.size)) = some (k, 2) := by
  have h := Tryz.sz88
  cases hi : Tryz.prog.info? 88 with
  | none => rw [hi] at h; cases h
  | some i => rw [hi] at h; simp only [Option.map_some, Option.some.injEq] at h ⊢; rw [h]
theorem Tryz.is88 : (Tryz.prog.info? 88).isSome = true := by kernel_rfl
theorem Tryz.by88 : (Tryz.prog.info? 88).map (fun j => decide (j.bytes ≤ 1000000)) = some true := by kernel_rfl
theorem Tryz.sz22 : (Tryz.prog.info? 22).map (·.size) = some 1 := by kernel_rfl
theorem Tryz.zr22 : (Tryz.prog.info? 22).map (·.zero) = some (some (.slice none 0 0)) := by kernel_rfl
theorem Tryz.pl22 (k : Nat) : (Tryz.prog.info? 22).map (fun t => (k, t.size)) = some (k, 1) := by
  have h := Tryz.sz22
  cases hi : Tryz.prog.info? 22 with
  | none => rw [hi] at h; cases h
  | some i => rw [hi] at h; simp only [Option.map_some, Option.some.injEq] at h ⊢; rw [h]
theorem Tryz.is22 : (Tryz.prog.info? 22).isSome = true := by kernel_rfl
theorem Tryz.by22 : (Tryz.prog.info? 22).map (fun j => decide (j.bytes ≤ 1000000)) = some true := by kernel_rfl
theorem Tryz.sz23 : (Tryz.prog.info? 23).map (·.size) = some 1 := by kernel_rfl
theorem Tryz.zr23 : (Tryz.prog.info? 23).map (·.zero) = some (some (.slice none 0 0)) := by kernel_rfl
theorem Tryz.pl23 (k : Nat) : (Tryz.prog.info? 23).map (fun t => (k, t.size)) = some (k, 1) := by
  have h := Tryz.sz23
  cases hi : Tryz.prog.info? 23 with
  | none => rw [hi] at h; cases h
  | some i => rw [hi] at h; simp only [Option.map_some, Option.some.injEq] at h ⊢; rw [h]
theorem Tryz.is23 : (Tryz.prog.info? 23).isSome = true := by kernel_rfl
theorem Tryz.by23 : (Tryz.prog.info? 23).map (fun j => decide (j.bytes ≤ 1000000)) = some true := by kernel_rfl
theorem Tryz.sz27 : (Tryz.prog.info? 27).map (·.size) = some 1 := by kernel_rfl
theorem Tryz.zr27 : (Tryz.prog.info? 27).map (·.zero) = some (some (.slice none 0 0)) := by kernel_rfl
theorem Tryz.pl27 (k : Nat) : (Tryz.prog.info? 27).map (fun t => (k, t.size)) = some (k, 1) := by
  have h := Tryz.sz27
  cases hi : Tryz.prog.info? 27 with
  | none => rw [hi] at h; cases h
  | some i => rw [hi] at h; simp only [Option.map_some, Option.some.injEq] at h ⊢; rw [h]
theorem Tryz.is27 : (Tryz.prog.info? 27).isSome = true := by kernel_rfl
theorem Tryz.by27 : (Tryz.prog.info? 27).map (fun j => decide (j.bytes ≤ 1000000)) = some true := by kernel_rfl
theorem Tryz.sz28 : (Tryz.prog.info? 28).map (·.size) = some 1 := by kernel_rfl
theorem Tryz.zr28 : (Tryz.prog.info? 28).map (·.zero) = some (some (.slice none 0 0)) := by kernel_rfl
theorem Tryz.pl28 (k : Nat) : (Tryz.prog.info? 28).map (fun t => (k, t.size)) = some (k, 1) := by
  have h := Tryz.sz28
  cases hi : Tryz.prog.info? 28 with
  | none => rw [hi] at h; cases h
  | some i => rw [hi] at h; simp only [Option.map_some, Option.some.injEq] at h ⊢; rw [h]
theorem Tryz.is28 : (Tryz.prog.info? 28).isSome = true := by kernel_rfl
theorem Tryz.by28 : (Tryz.prog.info? 28).map (fun j => decide (j.bytes ≤ 1000000)) = some true := by kernel_rfl
theorem Tryz.sz31 : (Tryz.prog.info? 31).map (·.size) = some 1 := by kernel_rfl
theorem Tryz.zr31 : (Tryz.prog.info? 31).map (·.zero) = some (some (.slice none 0 0)) := by kernel_rfl
theorem Tryz.pl31 (k : Nat) : (Tryz.prog.info? 31).map (fun t => (k, t.size)) = some (k, 1) := by
  have h := Tryz.sz31
  cases hi : Tryz.prog.info? 31 with
  | none => rw [hi] at h; cases h
  | some i => rw [hi] at h; simp only [Option.map_some, Option.some.injEq] at h ⊢; rw [h]
theorem Tryz.is31 : (Tryz.prog.info? 31).isSome = true := by kernel_rfl
theorem Tryz.by31 : (Tryz.prog.info? 31).map (fun j => decide (j.bytes ≤ 1000000)) = some true := by kernel_rfl
theorem Tryz.sz32 : (Tryz.prog.info? 32).map (·.size) = some 1 := by kernel_rfl
theorem Tryz.zr32 : (Tryz.prog.info? 32).map (·.zero) = some (some (.slice none 0 0)) := by kernel_rfl
theorem Tryz.pl32 (k : Nat) : (Tryz.prog.info? 32).map (fun t => (k, t.size)) = some (k, 1) := by
  have h := Tryz.sz32
  cases hi : Tryz.prog.info? 32 with
  | none => rw [hi] at h; cases h
  | some i => rw [hi] at h; simp only [Option.map_some, Option.some.injEq] at h ⊢; rw [h]
theorem Tryz.is32 : (Tryz.prog.info? 32).isSome = true := by kernel_rfl
theorem Tryz.by32 : (Tryz.prog.info? 32).map (fun j => decide (j.bytes ≤ 1000000)) = some true := by kernel_rfl
theorem Tryz.sz33 : (Tryz.prog.info? 33).map (·.size) = some 1 := by kernel_rfl
theorem Tryz.zr33 : (Tryz.prog.info? 33).map (·.zero) = some (some (.slice none 0 0)) := by kernel_rfl
theorem Tryz.pl33 (k : Nat) : (Tryz.prog.info? 33).map (fun t => (k, t.size)) = some (k, 1) := by
  have h := Tryz.sz33
  cases hi : Tryz.prog.info? 33 with
  | none => rw [hi] at h; cases h
  | some i => rw [hi] at h; simp only [Option.map_some, Option.some.injEq] at h ⊢; rw [h]
theorem Tryz.is33 : (Tryz.prog.info? 33).isSome = true := by kernel_rfl
theorem Tryz.by33 : (Tryz.prog.info? 33).map (fun j => decide (j.bytes ≤ 1000000)) = some true := by kernel_rfl
theorem Tryz.sz65 : (Tryz.prog.info? 65).map (·.size) = some 1 := by kernel_rfl
theorem Tryz.zr65 : (Tryz.prog.info? 65).map (·.zero) = some (some (.slice none 0 0)) := by kernel_rfl
theorem Tryz.pl65 (k : Nat) : (Tryz.prog.info? 65).map (fun t => (k, t.size)) = some (k, 1) := by
  have h := Tryz.sz65
  cases hi : Tryz.prog.info? 65 with
  | none => rw [hi] at h; cases h
  | some i => rw [hi] at h; simp only [Option.map_some, Option.some.injEq] at h ⊢; rw [h]
theorem Tryz.is65 : (Tryz.prog.info? 65).isSome = true := by kernel_rfl
theorem Tryz.by65 : (Tryz.prog.info? 65).map (fun j => decide (j.bytes ≤ 1000000)) = some true := by kernel_rfl
theorem Tryz.sz68 : (Tryz.prog.info? 68).map (·.size) = some 1 := by kernel_rfl
theorem Tryz.zr68 : (Tryz.prog.info? 68).map (·.zero) = some (some (.slice none 0 0)) := by kernel_rfl
theorem Tryz.pl68 (k : Nat) : (Tryz.prog.info? 68).map (fun t => (k, t.size)) = some (k, 1) := by
  have h := Tryz.sz68
  cases hi : Tryz.prog.info? 68 with
  | none => rw [hi] at h; cases h
  | some i => rw [hi] at h; simp only [Option.map_some, Option.some.injEq] at h ⊢; rw [h]
theorem Tryz.is68 : (Tryz.prog.info? 68).isSome = true := by kernel_rfl
theorem Tryz.by68 : (Tryz.prog.info? 68).map (fun j => decide (j.bytes ≤ 1000000)) = some true := by kernel_rfl
theorem Tryz.sz46 : (Tryz.prog.info? 46).map (·.size) = some 1 := by kernel_rfl
theorem Tryz.zr46 : (Tryz.prog.info? 46).map (·.zero) = some (some (.slice none 0 0)) := by kernel_rfl
theorem Tryz.pl46 (k : Nat) : (Tryz.prog.info? 46).map (fun t => (k, t.size)) = some (k, 1) := by
  have h := Tryz.sz46
  cases hi : Tryz.prog.info? 46 with
  | none => rw [hi] at h; cases h
  | some i => rw [hi] at h; simp only [Option.map_some, Option.some.injEq] at h ⊢; rw [h]
theorem Tryz.is46 : (Tryz.prog.info? 46).isSome = true := by kernel_rfl
theorem Tryz.by46 : (Tryz.prog.info? 46).map (fun j => decide (j.bytes ≤ 1000000)) = some true := by kernel_rfl
theorem Tryz.sz38 : (Tryz.prog.info? 38).map (·.size) = some 1 := by kernel_rfl
theorem Tryz.zr38 : (Tryz.prog.info? 38).map (·.zero) = some (some (.int .i64 0)) := by kernel_rfl
theorem Tryz.pl38 (k : Nat) : (Tryz.prog.info? 38).map (fun t => (k, t.size)) = some (k, 1) := by
  have h := Tryz.sz38
  cases hi : Tryz.prog.info? 38 with
  | none => rw [hi] at h; cases h
  | some i => rw [hi] at h; simp only [Option.map_some, Option.some.injEq] at h ⊢; rw [h]
theorem Tryz.is38 : (Tryz.prog.info? 38).isSome = true := by kernel_rfl
theorem Tryz.by38 : (Tryz.prog.info? 38).map (fun j => decide (j.bytes ≤ 1000000)) = some true := by kernel_rfl
theorem Tryz.sz94 : (Tryz.prog.info? 94).map (·.size) = some 20 := by kernel_rfl
theorem Tryz.zr94 : (Tryz.prog.info? 94).map (·.zero) = some (some (.agg #[.int .i64 0, .slice none 0 0, .int .i64 0, .int .i64 0, .slice none 0 0, .slice none 0 0, .slice none 0 0, .slice none 0 0, .int .i64 0, .int .i64 0, .slice none 0 0, .slice none 0 0, .slice none 0 0, .slice none 0 0, .int .i64 0, .int .i64 0, .bool false, .bool false, .bool false, .pointer none])) := by kernel_rfl
theorem Tryz.pl94 (k : Nat) : (Tryz.prog.info? 94).map (fun t => (k, t.size)) = some (k, 20) := by
  have h := Tryz.sz94
  cases hi : Tryz.prog.info? 94 with
  | none => rw [hi] at h; cases h
  | some i => rw [hi] at h; simp only [Option.map_some, Option.some.injEq] at h ⊢; rw [h]
theorem Tryz.is94 : (Tryz.prog.info? 94).isSome = true := by kernel_rfl
theorem Tryz.by94 : (Tryz.prog.info? 94).map (fun j => decide (j.bytes ≤ 1000000)) = some true := by kernel_rfl
theorem Tryz.sz91 : (Tryz.prog.info? 91).map (·.size) = some 1 := by kernel_rfl
theorem Tryz.zr91 : (Tryz.prog.info? 91).map (·.zero) = some (some (.pointer none)) := by kernel_rfl
theorem Tryz.pl91 (k : Nat) : (Tryz.prog.info? 91).map (fun t => (k, t.size)) = some (k, 1) := by
  have h := Tryz.sz91
  cases hi : Tryz.prog.info? 91 with
  | none => rw [hi] at h; cases h
  | some i => rw [hi] at h; simp only [Option.map_some, Option.some.injEq] at h ⊢; rw [h]
theorem Tryz.is91 : (Tryz.prog.info? 91).isSome = true := by kernel_rfl
theorem Tryz.by91 : (Tryz.prog.info? 91).map (fun j => decide (j.bytes ≤ 1000000)) = some true := by kernel_rfl
theorem Tryz.sz86 : (Tryz.prog.info? 86).map (·.size) = some 1 := by kernel_rfl
theorem Tryz.zr86 : (Tryz.prog.info? 86).map (·.zero) = some (some (.pointer none)) := by kernel_rfl
theorem Tryz.pl86 (k : Nat) : (Tryz.prog.info? 86).map (fun t => (k, t.size)) = some (k, 1) := by
  have h := Tryz.sz86
  cases hi : Tryz.prog.info? 86 with
  | none => rw [hi] at h; cases h
  | some i => rw [hi] at h; simp only [Option.map_some, Option.some.injEq] at h ⊢; rw [h]
theorem Tryz.is86 : (Tryz.prog.info? 86).isSome = true := by kernel_rfl
theorem Tryz.by86 : (Tryz.prog.info? 86).map (fun j => decide (j.bytes ≤ 1000000)) = some true := by kernel_rfl
end Go.Proofs.YtcloigoajohppaaGreatDoor
/- Texts: strconv.Itoa. -/
namespace Go.Proofs.YtcloigoajohppaaGreatDoor
open Go.RowKit
open Av
set_option maxRecDepth 100000
set_option linter.unusedSimpArgs false
open Go.Sort in
theorem below_growT (w : World) (k : Nat) (os : Array Obj) : Below w.heap.size w (grow (w.drewN k) os) :=
  ⟨rfl, rfl, rfl, by show w.heap.size ≤ (w.heap ++ os).size; rw [Array.size_append]; omega, fun j hj => by
    show (w.heap ++ os)[j]? = _
    rw [Array.getElem?_append_left hj]⟩
def txtI (n : Int) : ByteArray := ⟨(Lib.itoa n).toArray⟩
/-- The table of the powers of ten. -/
def TabC (w : World) : Prop := Lib.TabIs Tryz.prog w "internal/strconv.uint64pow10" .u64 Lib.pow10Tab
theorem TabC.below {w w' : World} (hb : Below w.heap.size w w') (h : TabC w) : TabC w' := tab_below hb h
theorem itoa_okC (n : Int) (h0 : -9223372036854775808 ≤ n) (h1 : n ≤ 9223372036854775807) : FnOKC Tryz.prog TabC 58 [iv n] ⟨.v (.string (txtI n)), none⟩ := by
  refine ⟨⟨Tryz.f58, _, Tryz.func58, by kernel_rfl, rfl⟩, fun w R hC hR us hus => ?_⟩
  cases hus with | cons h0' _ hus =>
  cases hus
  rw [h0']
  refine (Any.strconv_Itoa Tryz.laysM171 n h0 h1 w hC).mono ?_
  rintro e w' ⟨rfl, k, os, rfl⟩
  exact ⟨_, rfl, below_growT w k os, rfl, rfl⟩
end Go.Proofs.YtcloigoajohppaaGreatDoor
/- strings.Builder at the head of a writer: copyCheck, WriteString, WriteByte, over memory. -/
namespace Go.Proofs.YtcloigoajohppaaGreatDoor
open Go.RowKit
open Av
set_option linter.unusedSimpArgs false
/-- What is known of the block: a writer. -/
def WAt (b : Nat) (p v : Value) (bd : Bool) (w : World) : Prop := w.heap[b]? = some (.cells #[p, v, .bool bd] 74 (0, 0))
theorem liesW : liesAt Tryz.prog Tryz.prog.depth 74 (3 / Tryz.prog.cellsOf 74) 0 72 1 = true := by kernel_rfl
theorem sizeBld : (Tryz.prog.info? 72).map (·.size) = some 2 := by kernel_rfl
theorem WAt.cell {b : Nat} {p v : Value} {bd : Bool} {w : World} (h : WAt b p v bd w) : w.cell? ⟨b, 0, none⟩ = some p ∧ w.cell? ⟨b, 1, none⟩ = some v ∧ w.cell? ⟨b, 2, none⟩ = some (.bool bd) := by
  refine ⟨?_, ?_, ?_⟩ <;> rw [Lib.cell_of_heap h] <;> rfl

set_option maxRecDepth 100000 in
set_option maxHeartbeats 1000000 in
theorem copyCheck_used (b : Nat) (v : Value) (bd : Bool) (w : World) (h : WAt b (.pointer (some ⟨b, 0, none⟩)) v bd w) :
    Calls Tryz.prog 93 #[.pointer (some ⟨b, 0, none⟩)] w fun e w' => e = .returned (.tuple #[]) ∧ w' = w := by
  obtain ⟨j, hj, _⟩ := Option.map_eq_some_iff.1 sizeBld
  obtain ⟨h0, _, _⟩ := h.cell
  clear h
  go_enter Tryz.func93, Tryz.ntmps93
  go_wp2
  rw [Lib.run_neq_ptr_same w _ Tryz.underlying70 hj]
  go_wp2
  go_end0
  exact ⟨rfl, rfl⟩

set_option maxRecDepth 100000 in
set_option maxHeartbeats 1000000 in
theorem copyCheck_fresh (b : Nat) (v : Value) (bd : Bool) (w : World) (h : WAt b (.pointer none) v bd w) :
    Calls Tryz.prog 93 #[.pointer (some ⟨b, 0, none⟩)] w fun e w' => e = .returned (.tuple #[]) ∧ w' = w.setCell ⟨b, 0, none⟩ (.pointer (some ⟨b, 0, none⟩)) := by
  obtain ⟨j, hj, hjs⟩ := Option.map_eq_some_iff.1 sizeBld
  obtain ⟨h0, _, _⟩ := h.cell
  have hsh : w.shape? b = some (74, 3) := by unfold World.shape?; rw [show w.heap[b]? = _ from h]; rfl
  have hfz : w.frozen? ⟨b, 0, none⟩ = false := Lib.frozen_of_heap h 0
  clear h
  go_enter Tryz.func93, Tryz.ntmps93
  go_wp2
  rw [Lib.run_to_unsafe w ⟨b, 0, none⟩ Tryz.underlying70 Tryz.underlying182 hj (by rw [hjs]; decide) hsh (Nat.zero_lt_succ 2)]
  simp only [Result.andThen]
  rw [Oper.upon_value]
  go_wp2
  rw [run_callFunc_extern Tryz.func122 (by kernel_rfl) (by kernel_rfl) (by kernel_rfl) (e := Extern.AbiNoEscape.same) (by kernel_rfl)]
  rw [Lib.run_noEscape]
  simp only [Result.andThen]
  rw [Oper.upon_value]
  go_wp2
  rw [Lib.run_from_unsafe w ⟨b, 0, none⟩ Tryz.underlying182 Tryz.underlying70 hj hsh liesW]
  simp only [Result.andThen]
  rw [Oper.upon_value]
  go_wp2
  go_end0
  exact ⟨rfl, rfl⟩
end Go.Proofs.YtcloigoajohppaaGreatDoor
/- strings.Builder at the head of a writer: WriteString, over memory. -/
namespace Go.Proofs.YtcloigoajohppaaGreatDoor
open Go.RowKit
open Av
set_option linter.unusedSimpArgs false
/-- The row that a string was appended to: the old one, or one that is new. -/
theorem append_str_block {P : Program} (w : World) (base : Nat) (t u ty e : TypeId) (i : TypeInfo) (ht : P.underlying t = some (.slice e)) (hu : P.underlying u = some .string) (hi : P.info? e = some i) (hz : i.zero = some (.int .u8 0))
    (hsize : i.size = 1) (hby : i.bytes = 1) (v : Value) (n : Nat) (xs : List Value) (hown : w.ownsRow base e 1 v n xs) (s : ByteArray) (hbytes : n + s.size ≤ 140737488355328) (hbase : base ≤ w.heap.size) :
    ∃ v' w', (Builtin.append_ #[t, u] ty #[v, .string s]).run P w = .ok v' w' ∧ w'.ownsRow base e 1 v' (n + s.size) (xs ++ Lib.strCells s) ∧ w.grownBy w' v.ownBlock ∧ (∀ k, v'.ownBlock = some k → v.ownBlock = some k ∨ k = w.heap.size) := by
  obtain ⟨v', w', h1, h2, h3, h4⟩ := Lib.run_append_own_string (P := P) w base t u ty e i ht hu hi hz hsize hby v n xs hown s (by unfold maxLen; omega) hbytes hbase
  refine ⟨v', w', h1, h2, h3, fun k hk => ?_⟩
  have hxl : xs.length = n := by simpa using hown.1
  rcases hown.2 with ⟨rfl, rfl⟩ | ⟨g, cap, cur, rfl, hbg, hg, hnc, hcm, hcs, htake⟩
  · by_cases hm : s.size = 0
    · rw [h4.2 ⟨rfl, hm⟩] at hk
      cases hk
    · rw [run_append_nil_string (P := P) w t u ty e i (.int .u8 0) ht hu hi hz s (by omega) (by omega) (by rw [hby]; omega)] at h1
      cases h1
      cases hk
      exact .inr rfl
  · have hcs' : cur.size = cap := by simpa using hcs
    by_cases hroom : n + s.size ≤ cap
    · rw [Lib.run_append_room_string (P := P) w t u ty e i ht hu hi hsize g n cap cur hg s hroom (by omega)] at h1
      cases h1
      exact .inl hk
    · rw [Lib.run_append_grow_string (P := P) w t u ty e i (.int .u8 0) ht hu hi hz ⟨g, 0, none⟩ n cap xs (by rw [hsize]; simpa using hxl) (hown.cells (g := g) rfl) s (by omega) (by omega) (by rw [hby]; exact growslice_fits (by omega) (by omega))] at h1
      cases h1
      cases hk
      exact .inr rfl
theorem wp_append_str {P : Program} (w : World) {ops : Array Oper} {rest : List Oper} {o : Oper} {a : Act} {Q : Exit → Act → World → Prop} (hgd : o.guard = none) (sl x : Operand) (t u : TypeId)
    (ho : o.op = .call { callee := .builtin .append, args := #[sl, x], argTypes := #[t, u] })
    (base : Nat) (e : TypeId) (i : TypeInfo) (ht : P.underlying t = some (.slice e)) (hu : P.underlying u = some .string) (hi : P.info? e = some i) (hz : i.zero = some (.int .u8 0))
    (hsize : i.size = 1) (hby : i.bytes = 1) (v : Value) (n : Nat) (xs : List Value) (hs : a.eval sl = v) (hown : w.ownsRow base e 1 v n xs) (s : ByteArray) (hx : a.eval x = .string s)
    (hbytes : n + s.size ≤ 140737488355328) (hbase : base ≤ w.heap.size)
    (h : ∀ v' w', w'.ownsRow base e 1 v' (n + s.size) (xs ++ Lib.strCells s) → w.grownBy w' v.ownBlock → (∀ k, v'.ownBlock = some k → v.ownBlock = some k ∨ k = w.heap.size) → wpList P ops Q rest (a.put o.dst v') w') : wpList P ops Q (o :: rest) a w := by
  refine wpList_plain hgd fun K hK => ?_
  obtain ⟨v', w', hr, h2, h3, h4⟩ := append_str_block (P := P) w base t u o.type e i ht hu hi hz hsize hby v n xs hown s hbytes hbase
  unfold Oper.wp execOp
  simp only [ho, resolve, invoke, builtin, Sem.run_bind, Sem.run_pure, Result.andThen_ok, List.map_toArray, List.map_cons, List.map_nil, hs, hx, hr]
  exact hK _ _ (h v' w' h2 h3 h4)
theorem infoB : (Tryz.prog.info? 5).map (fun i => (i.zero, i.size, i.bytes)) = some (some (.int .u8 0), 1, 1) := by kernel_rfl
theorem WAt.lt {b : Nat} {p v : Value} {bd : Bool} {w : World} (h : WAt b p v bd w) : b < w.heap.size := by
  rcases Nat.lt_or_ge b w.heap.size with h' | h'
  · exact h'
  · have : w.heap[b]? = some _ := h
    simp [Array.getElem?_eq_none h'] at this
theorem copyCheck_any (b : Nat) (st : Bool) (v : Value) (bd : Bool) (w : World) (h : WAt b (selfV st b) v bd w) :
    Calls Tryz.prog 93 #[.pointer (some ⟨b, 0, none⟩)] w fun e w' => e = .returned (.tuple #[]) ∧ WAt b (selfV true b) v bd w' ∧ w.grownBy w' (some b) ∧ w'.heap.size = w.heap.size := by
  cases st with
  | true =>
    refine (copyCheck_used b v bd w h).mono ?_
    rintro e w' ⟨rfl, rfl⟩
    exact ⟨rfl, h, ⟨rfl, rfl, rfl, Nat.le_refl _, fun _ _ _ => rfl⟩, rfl⟩
  | false =>
    refine (copyCheck_fresh b v bd w h).mono ?_
    rintro e w' ⟨rfl, rfl⟩
    refine ⟨rfl, ?_, Lib.grownBy_setCell w b 0 _, by simp [World.setCell]⟩
    have hb : w.heap[b]? = some _ := h
    simp [WAt, World.setCell, Array.getElem?_modify, hb, selfV]
set_option maxRecDepth 100000 in
set_option maxHeartbeats 2000000 in
theorem writeString_mem (b : Nat) (st bd : Bool) (bs : List Value) (V : Value) (s : ByteArray) (w : World) (h : (bldE 74 5 b st [.bool bd] bs V).holds w) (hlen : bs.length + s.size ≤ 140737488355328) :
    Calls Tryz.prog 52 #[.pointer (some ⟨b, 0, none⟩), .string s] w fun e w' => ∃ V', e = .returned (.tuple #[.int .i64 s.size, .nilIface]) ∧
      Turn (bldE 74 5 b st [.bool bd] bs V) w w' (bldE 74 5 b true [.bool bd] (bs ++ Lib.strCells s) V') := by
  obtain ⟨i0, hi, hz0, hz1, hz2⟩ := info_parts infoB
  obtain ⟨hbk, hown, hne⟩ := h
  have e240 : ∀ args w, (callFunc 93 args).run Tryz.prog w = .ok (.enter 93 args) w := enters_of Tryz.func93 (by kernel_rfl) rfl
  have hlt0 : b < w.heap.size := WAt.lt (w := w) hbk
  go_enter Tryz.func52, Tryz.ntmps52
  go_wp2_with (go_at_fn 93; refine (copyCheck_any b st V bd _ hbk).mono ?_)
  rintro e w1 ⟨rfl, hb1, hg1, hsz1⟩
  obtain ⟨c0, c1, _⟩ := hb1.cell
  have hown1 : w1.ownsRow 0 5 1 V bs.length bs := hown.kept hg1 (Or.inr hne)
  go_wp2_with (at_builtin; refine wp_append_str _ rfl _ _ 56 9 rfl 0 5 i0 Tryz.underlying56 Tryz.underlying9 hi hz0 hz1 hz2 _ _ _ rfl hown1 s rfl ?c4 ?c5 ?_)
  case c4 => exact hlen
  case c5 => exact Nat.zero_le _
  intro v' w2 hown' hgrow hblk
  have hlt : b < w1.heap.size := by omega
  have hb2 : w2.heap[b]? = some (.cells #[selfV true b, V, .bool bd] 74 (0, 0)) := by
    rw [hgrow.block b hlt (fun e => hne e.symm)]
    exact hb1
  have d0 : w2.cell? ⟨b, 0, none⟩ = some (selfV true b) := by rw [Lib.cell_of_heap hb2]; rfl
  have d1 : w2.cell? ⟨b, 1, none⟩ = some V := by rw [Lib.cell_of_heap hb2]; rfl
  have f1 : w2.frozen? ⟨b, 1, none⟩ = false := Lib.frozen_of_heap hb2 1
  have hne' : v'.ownBlock ≠ some b := fun e => by
    rcases hblk b e with h | h
    · exact hne h
    · omega
  have hlt2 : ∀ k, v'.ownBlock = some k → k < w2.heap.size := fun k hk => (hown'.lt k hk).2
  obtain ⟨ao, n', cap, rfl⟩ : ∃ ao n' cap, v' = .slice ao n' cap := by
    rcases hown'.2 with ⟨hv, _⟩ | ⟨g, cap, cur, hv, _⟩
    · exact ⟨_, _, _, hv⟩
    · exact ⟨_, _, _, hv⟩
  go_wp2
  go_ret2
  have hg3 := Lib.grownBy_setCell w2 b 1 (.slice ao n' cap)
  have hs3 : (w2.setCell ⟨b, 1, none⟩ (.slice ao n' cap)).heap.size = w2.heap.size := by simp [World.setCell]
  refine ⟨_, rfl, hg3.os.trans (hgrow.os.trans hg1.os), hg3.tape.trans (hgrow.tape.trans hg1.tape), hg3.output.trans (hgrow.output.trans hg1.output), Nat.le_trans hg1.size (Nat.le_trans hgrow.size hg3.size), fun k hk hn => ?_, ⟨?_, ?_, hne'⟩, fun y hy => ?_, fun y hy => hy.elim, fun _ _ => trivial, fun _ _ => trivial, fun _ h => h.elim⟩
  · have k1 : some k ≠ some b := fun e => hn (.inl (by cases e; rfl))
    have k2 : some k ≠ V.ownBlock := fun e => hn (.inr e.symm)
    have s2 := hgrow.size
    rw [hg3.block k (by omega) k1, hgrow.block k (by omega) k2, hg1.block k hk k1]
  · simp [World.setCell, Array.getElem?_modify, hb2]
  · have := hown'.kept hg3 (Or.inr hne')
    simpa [Lib.strCells_length] using this
  · rcases hy with hy | hy
    · exact .inl (.inl hy)
    · rcases hblk y hy with h | h
      · exact .inl (.inr h)
      · have := hlt2 y hy
        exact .inr ⟨by omega, by omega⟩
end Go.Proofs.YtcloigoajohppaaGreatDoor
/- strings.Builder at the head of a writer: WriteByte, over memory. -/
namespace Go.Proofs.YtcloigoajohppaaGreatDoor
open Go.RowKit
open Av
set_option linter.unusedSimpArgs false
/-- The row that m elements were appended to: the old one, or one that is new. -/
theorem append_row_block {P : Program} (w : World) (base : Nat) (t ty e : TypeId) (i : TypeInfo) (z : Value) (ht : P.underlying t = some (.slice e)) (hi : P.info? e = some i) (hz : i.zero = some z) (hsize : i.size = 1) (hby : i.bytes = 1) (hzs : z.cells.size = 1)
    (v : Value) (n : Nat) (xs : List Value) (hown : w.ownsRow base e 1 v n xs) (a : Addr) (m c : Nat) (hm0 : 0 < m) (news : List Value) (hl : news.length = m) (hnews : ∀ j u, news[j]? = some u → w.cell? (a.add j) = some u) (h1 : ∀ u ∈ news, u.oneCell' = true)
    (hbytes : n + m ≤ 140737488355328) (hbase : base ≤ w.heap.size) :
    ∃ v' w', (Builtin.append_ #[t, t] ty #[v, .slice (some a) m c]).run P w = .ok v' w' ∧ w'.ownsRow base e 1 v' (n + m) (xs ++ news) ∧ w.grownBy w' v.ownBlock ∧ (∀ k, v'.ownBlock = some k → v.ownBlock = some k ∨ k = w.heap.size) := by
  obtain ⟨v', w', r1, h2, h3, h4⟩ := run_append_own (P := P) w base t ty e i z 1 1 ht hi hz hsize hby hzs (by decide) v n xs hown a m c news (by simpa using hl) hnews h1 (by unfold maxLen; omega) (by omega) hbase
  refine ⟨v', w', r1, h2, h3, fun k hk => ?_⟩
  have hxl : xs.length = n := by simpa using hown.1
  rcases hown.2 with ⟨rfl, rfl⟩ | ⟨g, cap, cur, rfl, hbg, hg, hnc, hcm, hcs, htake⟩
  · rw [run_append_nil (P := P) w t ty e i z ht hi hz a m c news (by rw [hsize]; simpa using hl) hnews hm0 (by omega) (by rw [hby]; omega)] at r1
    cases r1
    cases hk
    exact .inr rfl
  · have hcs' : cur.size = cap := by simpa using hcs
    by_cases hroom : n + m ≤ cap
    · rw [run_append_room (P := P) w t ty e i ht hi g n cap cur hg a m c news (by rw [hsize]; simpa using hl) hnews h1 hroom (by rw [hsize]; omega)] at r1
      cases r1
      exact .inl hk
    · rw [run_append_grow (P := P) w t ty e i z ht hi hz ⟨g, 0, none⟩ n cap xs (by rw [hsize]; simpa using hxl) (hown.cells (g := g) rfl) a m c news (by rw [hsize]; simpa using hl) hnews (by omega) (by omega) (by rw [hby]; exact growslice_fits (by omega) (by omega))] at r1
      cases r1
      cases hk
      exact .inr rfl
theorem wp_append_row {P : Program} (w : World) {ops : Array Oper} {rest : List Oper} {o : Oper} {a : Act} {Q : Exit → Act → World → Prop} (hgd : o.guard = none) (s x : Operand) (t : TypeId)
    (ho : o.op = .call { callee := .builtin .append, args := #[s, x], argTypes := #[t, t] })
    (base : Nat) (e : TypeId) (i : TypeInfo) (z : Value) (ht : P.underlying t = some (.slice e)) (hi : P.info? e = some i) (hz : i.zero = some z) (hsize : i.size = 1) (hby : i.bytes = 1) (hzs : z.cells.size = 1)
    (v : Value) (n : Nat) (xs : List Value) (hs : a.eval s = v) (hown : w.ownsRow base e 1 v n xs) (ad : Addr) (m c : Nat) (hm0 : 0 < m) (news : List Value) (hx : a.eval x = .slice (some ad) m c) (hl : news.length = m) (hnews : ∀ j u, news[j]? = some u → w.cell? (ad.add j) = some u) (h1 : ∀ u ∈ news, u.oneCell' = true)
    (hbytes : n + m ≤ 140737488355328) (hbase : base ≤ w.heap.size)
    (h : ∀ v' w', w'.ownsRow base e 1 v' (n + m) (xs ++ news) → w.grownBy w' v.ownBlock → (∀ k, v'.ownBlock = some k → v.ownBlock = some k ∨ k = w.heap.size) → wpList P ops Q rest (a.put o.dst v') w') : wpList P ops Q (o :: rest) a w := by
  refine wpList_plain hgd fun K hK => ?_
  obtain ⟨v', w', hr, h2, h3, h4⟩ := append_row_block (P := P) w base t o.type e i z ht hi hz hsize hby hzs v n xs hown ad m c hm0 news hl hnews h1 hbytes hbase
  unfold Oper.wp execOp
  simp only [ho, resolve, invoke, builtin, Sem.run_bind, Sem.run_pure, Result.andThen_ok, List.map_toArray, List.map_cons, List.map_nil, hs, hx, hr]
  exact hK _ _ (h v' w' h2 h3 h4)
set_option maxRecDepth 100000 in
set_option maxHeartbeats 2000000 in
theorem writeByte_mem (b : Nat) (st bd : Bool) (bs : List Value) (V : Value) (c : Int) (w : World) (h : (bldE 74 5 b st [.bool bd] bs V).holds w) (hlen : bs.length + 1 ≤ 140737488355328) :
    Calls Tryz.prog 59 #[.pointer (some ⟨b, 0, none⟩), .int .u8 c] w fun e w' => ∃ V', e = .returned .nilIface ∧
      Turn (bldE 74 5 b st [.bool bd] bs V) w w' (bldE 74 5 b true [.bool bd] (bs ++ [.int .u8 c]) V') := by
  obtain ⟨i0, hi, hz0, hz1, hz2⟩ := info_parts infoB
  obtain ⟨hbk, hown, hne⟩ := h
  have e240 : ∀ args w, (callFunc 93 args).run Tryz.prog w = .ok (.enter 93 args) w := enters_of Tryz.func93 (by kernel_rfl) rfl
  have hlt0 : b < w.heap.size := WAt.lt (w := w) hbk
  go_enter Tryz.func59, Tryz.ntmps59
  go_wp2_with (go_at_fn 93; refine (copyCheck_any b st V bd _ hbk).mono ?_)
  rintro e w1 ⟨rfl, hb1, hg1, hsz1⟩
  replace hsz1 := Nat.le_of_eq hsz1
  obtain ⟨c0, c1, _⟩ := hb1.cell
  have hown1 : w1.ownsRow 0 5 1 V bs.length bs := hown.kept hg1 (Or.inr hne)
  go_wp2_with (at_builtin; refine wp_append_row _ rfl _ _ 56 rfl 0 5 i0 (.int .u8 0) Tryz.underlying56 hi hz0 hz1 hz2 rfl _ _ _ rfl (hown1.alloc _) ⟨w1.heap.size, 0, none⟩ 1 1 (by decide) [.int .u8 c] rfl rfl ?c1 ?c2 ?c4 ?c5 ?_)
  case c1 =>
    intro j u hj
    match j, hj with
    | 0, hj => simp at hj; subst hj; simp [Addr.add]
  case c2 => intro u hu; simp at hu; subst hu; rfl
  case c4 => exact hlen
  case c5 => exact Nat.zero_le _
  intro v' w2 hown' hgrow hblk
  have hlt : b < w1.heap.size := Nat.lt_of_lt_of_le hlt0 hg1.size
  have hsA : (w1.alloc (.cells #[.int .u8 c] 5)).heap.size = w1.heap.size + 1 := Array.size_push ..
  have hgA := World.grownBy_alloc w1 (.cells #[.int .u8 c] 5) none
  have hb2 : w2.heap[b]? = some (.cells #[selfV true b, V, .bool bd] 74 (0, 0)) := by
    rw [hgrow.block b (by rw [hsA]; omega) (fun e => hne e.symm), Lib.alloc_old w1 _ b hlt]
    exact hb1
  have d0 : w2.cell? ⟨b, 0, none⟩ = some (selfV true b) := by rw [Lib.cell_of_heap hb2]; rfl
  have d1 : w2.cell? ⟨b, 1, none⟩ = some V := by rw [Lib.cell_of_heap hb2]; rfl
  have f1 : w2.frozen? ⟨b, 1, none⟩ = false := Lib.frozen_of_heap hb2 1
  have hne' : v'.ownBlock ≠ some b := fun e => by
    rcases hblk b e with h | h
    · exact hne h
    · first | omega | (rw [hsA] at h; omega)
  have hlt2 : ∀ k, v'.ownBlock = some k → k < w2.heap.size := fun k hk => (hown'.lt k hk).2
  obtain ⟨ao, n', cap, rfl⟩ : ∃ ao n' cap, v' = .slice ao n' cap := by
    rcases hown'.2 with ⟨hv, _⟩ | ⟨g, cap, cur, hv, _⟩
    · exact ⟨_, _, _, hv⟩
    · exact ⟨_, _, _, hv⟩
  go_wp2
  go_ret
  have hg3 := Lib.grownBy_setCell w2 b 1 (.slice ao n' cap)
  have hs3 : (w2.setCell ⟨b, 1, none⟩ (.slice ao n' cap)).heap.size = w2.heap.size := by simp [World.setCell]
  have s2 := hgrow.size
  rw [hsA] at s2
  have s1 := hg1.size
  refine ⟨_, rfl, hg3.os.trans (hgrow.os.trans (hgA.os.trans hg1.os)), hg3.tape.trans (hgrow.tape.trans (hgA.tape.trans hg1.tape)), hg3.output.trans (hgrow.output.trans (hgA.output.trans hg1.output)), by omega, fun k hk hn => ?_, ⟨?_, ?_, hne'⟩, fun y hy => ?_, fun y hy => hy.elim, fun _ _ => trivial, fun _ _ => trivial, fun _ h => h.elim⟩
  · have k1 : some k ≠ some b := fun e => hn (.inl (by cases e; rfl))
    have k2 : some k ≠ V.ownBlock := fun e => hn (.inr e.symm)
    rw [hg3.block k (by omega) k1, hgrow.block k (by rw [hsA]; omega) k2, Lib.alloc_old w1 _ k (by omega), hg1.block k hk k1]
  · simp [World.setCell, Array.getElem?_modify, hb2]
  · have := hown'.kept hg3 (Or.inr hne')
    simpa using this
  · rcases hy with hy | hy
    · exact .inl (.inl hy)
    · rcases hblk y hy with h | h
      · exact .inl (.inr h)
      · have := hlt2 y hy
        have := hg1.size
        first | exact .inr ⟨by omega, by omega⟩ | (rw [hsA] at h; exact .inr ⟨by omega, by omega⟩)
end Go.Proofs.YtcloigoajohppaaGreatDoor
/- strings.Builder at the head of a writer: String, over memory (the bytes are frozen: the writer is not used again). -/
namespace Go.Proofs.YtcloigoajohppaaGreatDoor
open Go.RowKit
open Av
set_option linter.unusedSimpArgs false
theorem freeze_block (w : World) (p : Addr) (n k : Nat) (h : k ≠ p.block) : (w.freeze p n).heap[k]? = w.heap[k]? := by
  unfold World.freeze
  split
  · rfl
  · simp only [Array.getElem?_modify]
    rw [if_neg (by omega)]
theorem freeze_rest (w : World) (p : Addr) (n : Nat) : (w.freeze p n).os = w.os ∧ (w.freeze p n).tape = w.tape ∧ (w.freeze p n).output = w.output ∧ (w.freeze p n).heap.size = w.heap.size := by
  unfold World.freeze
  split
  · exact ⟨rfl, rfl, rfl, rfl⟩
  · exact ⟨rfl, rfl, rfl, by simp⟩
theorem cellsB : Tryz.prog.cellsOf 5 = 1 := by kernel_rfl
set_option maxRecDepth 100000 in
set_option maxHeartbeats 2000000 in
theorem string_mem (b : Nat) (st bd : Bool) (l : List UInt8) (h0 : l ≠ []) (V : Value) (w : World) (h : (bldE 74 5 b st [.bool bd] (Lib.byteCells l) V).holds w) :
    Calls Tryz.prog 30 #[.pointer (some ⟨b, 0, none⟩)] w fun e w' => e = .returned (.string ⟨l.toArray⟩) ∧
      Turn (bldE 74 5 b st [.bool bd] (Lib.byteCells l) V) w w' Ext.nil := by
  obtain ⟨hbk, hown, hne⟩ := h
  have hl0 : l.length ≠ 0 := by simpa using h0
  rw [Lib.byteCells_length] at hown
  obtain ⟨g, cap, cur, rfl, hbg, hg, hnc, hcm, hcs, htake⟩ : ∃ g cap cur, V = .slice (some ⟨g, 0, none⟩) l.length cap ∧ 0 ≤ g ∧ w.heap[g]? = some (.cells cur 5 (0, 0)) ∧ l.length ≤ cap ∧ cap ≤ maxLen ∧ cur.size = cap * 1 ∧ cur.toList.take (l.length * 1) = Lib.byteCells l := by
    rcases hown.2 with ⟨_, hz⟩ | ⟨g, cap, cur, hv, r⟩
    · exact absurd hz hl0
    · exact ⟨g, cap, cur, hv, r⟩
  have c1 : w.drew.cell? ⟨b, 1, none⟩ = some (.slice (some ⟨g, 0, none⟩) l.length cap) := by
    have : w.drew.heap[b]? = some (.cells #[selfV st b, .slice (some ⟨g, 0, none⟩) l.length cap, .bool bd] 74 (0, 0)) := hbk
    rw [Lib.cell_of_heap this]; rfl
  have hSD : (Builtin.unsafeSliceData_ #[56] 128 #[.slice (some ⟨g, 0, none⟩) l.length cap]).run Tryz.prog w.drew = .ok (.pointer (some ⟨g, 0, none⟩)) w.drew :=
    Lib.run_unsafeSliceData_row _ _ _ _ _ _ (by omega)
  have hUS : (Builtin.unsafeString_ #[128, 3] 9 #[.pointer (some ⟨g, 0, none⟩), .int .i64 l.length]).run Tryz.prog w.drew = .ok (.string ⟨l.toArray⟩) (w.drew.freeze ⟨g, 0, none⟩ l.length) := by
    refine Lib.run_unsafeString_row w.drew 128 3 9 5 Tryz.underlying128 cellsB g cur.size (by have hg' : w.drew.heap[g]? = some (.cells cur 5 (0, 0)) := hg; simp [World.shape?, hg']) l h0 (by omega) (by unfold maxLen at hcm; omega) ?_
    intro j x hx
    have := hown.cells (g := g) rfl j (.int .u8 x.toNat) (by simp [Lib.byteCells, hx])
    exact this
  have fin : Turn (bldE 74 5 b st [.bool bd] (Lib.byteCells l) (.slice (some ⟨g, 0, none⟩) l.length cap)) w (w.drew.freeze ⟨g, 0, none⟩ l.length) Ext.nil := by
    obtain ⟨f1, f2, f3, f4⟩ := freeze_rest w.drew ⟨g, 0, none⟩ l.length
    refine ⟨f1, f2, f3, Nat.le_of_eq f4.symm, fun k hk hn => ?_, trivial, fun y hy => hy.elim, fun y hy => hy.elim, fun _ _ => trivial, fun _ _ => trivial, fun _ h => h.elim⟩
    exact freeze_block w.drew _ _ k (fun e => hn (.inr (by subst e; rfl)))
  go_enter Tryz.func30, Tryz.ntmps30
  go_wp2
  go_region
  all_goals (go_wp2; go_ret; exact ⟨rfl, fin⟩)
end Go.Proofs.YtcloigoajohppaaGreatDoor
/- strings.Builder at the head of a writer: the methods as functions that a writer is lent to. -/
namespace Go.Proofs.YtcloigoajohppaaGreatDoor
open Go.RowKit
open Av
set_option linter.unusedSimpArgs false
/-- A writer at block b: what it has written, and whether it is bad. -/
abbrev wrE (b : Nat) (x : Bool × List UInt8 × Bool) (V : Value) : Ext := bldE 74 5 b x.1 [.bool x.2.2] (Lib.byteCells x.2.1) V
abbrev wrP (b : Nat) : Value := .pointer (some ⟨b, 0, none⟩)
theorem cells_app (l : List UInt8) (s : ByteArray) : Lib.byteCells l ++ Lib.strCells s = Lib.byteCells (l ++ s.data.toList) := by simp [Lib.byteCells, Lib.strCells]
theorem cells_one (l : List UInt8) (c : UInt8) : Lib.byteCells l ++ [.int .u8 (c.toNat : Int)] = Lib.byteCells (l ++ [c]) := by simp [Lib.byteCells]
theorem writeString_okX (C : World → Prop) (b : Nat) (st bd : Bool) (l : List UInt8) (V : Value) (s : ByteArray) (hlen : l.length + s.size ≤ 140737488355328) :
    FnX Tryz.prog C 52 [.v (wrP b), .v (.string s)] (wrE b (st, l, bd) V) (.tup [.c (.v (.int .i64 s.size)), .c (.v .nilIface)]) (fun V' => wrE b (true, l ++ s.data.toList, bd) V') := by
  refine fnX_of (vs := [wrP b, .string s]) ⟨_, _, Tryz.func52, by kernel_rfl, rfl⟩ rfl fun w _ hx => ?_
  refine (writeString_mem b st bd _ V s w hx (by rw [Lib.byteCells_length]; exact hlen)).mono ?_
  rintro e w' ⟨V', rfl, ht⟩
  rw [cells_app] at ht
  exact ⟨_, V', rfl, ht, fun R => ⟨[_, _], rfl, .cons (.c (.v _ rfl)) (.cons (.c (.v _ rfl)) .nil)⟩⟩
theorem writeByte_okX (C : World → Prop) (b : Nat) (st bd : Bool) (l : List UInt8) (V : Value) (c : UInt8) (hlen : l.length + 1 ≤ 140737488355328) :
    FnX Tryz.prog C 59 [.v (wrP b), .v (.int .u8 (c.toNat : Int))] (wrE b (st, l, bd) V) (.v .nilIface) (fun V' => wrE b (true, l ++ [c], bd) V') := by
  refine fnX_of (vs := [wrP b, .int .u8 (c.toNat : Int)]) ⟨_, _, Tryz.func59, by kernel_rfl, rfl⟩ rfl fun w _ hx => ?_
  refine (writeByte_mem b st bd _ V _ w hx (by rw [Lib.byteCells_length]; exact hlen)).mono ?_
  rintro e w' ⟨V', rfl, ht⟩
  rw [cells_one] at ht
  exact ⟨_, V', rfl, ht, fun R => rfl⟩
theorem string_okX (C : World → Prop) (b : Nat) (st bd : Bool) (l : List UInt8) (V : Value) (h0 : l ≠ []) :
    FnX Tryz.prog C 30 [.v (wrP b)] (wrE b (st, l, bd) V) (.v (.string ⟨l.toArray⟩)) (fun _ : Unit => Ext.nil) := by
  refine fnX_of (vs := [wrP b]) ⟨_, _, Tryz.func30, by kernel_rfl, rfl⟩ rfl fun w _ hx => ?_
  refine (string_mem b st bd l h0 V w hx).mono ?_
  rintro e w' ⟨rfl, ht⟩
  exact ⟨_, (), rfl, ht, fun R => rfl⟩
end Go.Proofs.YtcloigoajohppaaGreatDoor
/- Scenarios in plain Lean: their lines, and the text of lines. -/
namespace Go.Proofs.YtcloigoajohppaaGreatDoor
set_option linter.unusedSimpArgs false
set_option linter.unusedVariables false
namespace Sc
theorem ba_size (s : ByteArray) : s.size = s.data.toList.length := (Array.length_toList (xs := s.data)).symm
structure Fw where
  id : Int
  fr : Int
  to : Int
  pe : Int
  ph : Int
  dl : Int
deriving DecidableEq
structure Rq where
  f : Fw
  rs : List (List Int)
deriving DecidableEq
structure Ce where
  sl : Int
  of : Int
  fr : Int
  to : Int
  fl : Int
deriving DecidableEq
structure Ch where
  sl : Int
  ad : Bool
  c : Ce
deriving DecidableEq
structure Wk where
  fr : Int
  to : Int
  fi : Int
  un : Int
  re : Int
deriving DecidableEq
structure Og where
  nd : Int
  fi : Int
  un : Int
deriving DecidableEq
structure Lk where
  fr : Int
  to : Int
  ls : Int
deriving DecidableEq
structure Nt where
  nodes : Int
  power : List (List Int)
  noise : Int
  thr : Int
  links : List Lk
  margin : List Int
deriving DecidableEq
structure Sn where
  net : Nt
  before : List Rq
  after : List Rq
  len : Int
  offs : Int
  cells : List Ce
  changes : List Ch
  weak : List Wk
  outs : List Og
  slots : Int
deriving DecidableEq

/-- A line: its word, and its numbers. -/
abbrev Ln := ByteArray × List Int
def wNetwork : ByteArray := ⟨#[110, 101, 116, 119, 111, 114, 107]⟩
def wPower : ByteArray := ⟨#[112, 111, 119, 101, 114]⟩
def wLink : ByteArray := ⟨#[108, 105, 110, 107]⟩
def wBefore : ByteArray := ⟨#[98, 101, 102, 111, 114, 101]⟩
def wAfter : ByteArray := ⟨#[97, 102, 116, 101, 114]⟩
def wRoute : ByteArray := ⟨#[114, 111, 117, 116, 101]⟩
def wSchedule : ByteArray := ⟨#[115, 99, 104, 101, 100, 117, 108, 101]⟩
def wCell : ByteArray := ⟨#[99, 101, 108, 108]⟩
def wAdd : ByteArray := ⟨#[97, 100, 100]⟩
def wRemove : ByteArray := ⟨#[114, 101, 109, 111, 118, 101]⟩
def wWeak : ByteArray := ⟨#[119, 101, 97, 107]⟩
def wOutage : ByteArray := ⟨#[111, 117, 116, 97, 103, 101]⟩
def wSlots : ByteArray := ⟨#[115, 108, 111, 116, 115]⟩
/-- A number that cannot be written. -/
def farB (n : Int) : Bool := decide (n < -1099511627776) || decide (n > 1099511627776)
/-- The bytes of a line, but for its end. -/
def lineB (word : ByteArray) (ns : List Int) : List UInt8 := word.data.toList ++ ns.flatMap fun n => 32 :: Lib.itoa n
/-- The bytes of lines. -/
def txt (l : List Ln) : List UInt8 := l.flatMap fun x => lineB x.1 x.2 ++ [10]
/-- Whether one of them has a number that cannot be written. -/
def farL (l : List Ln) : Bool := l.any fun x => x.2.any farB
@[simp] theorem txt_nil : txt [] = [] := rfl
theorem txt_append (l m : List Ln) : txt (l ++ m) = txt l ++ txt m := by simp [txt]
theorem txt_one (x : Ln) : txt [x] = lineB x.1 x.2 ++ [10] := by simp [txt]
theorem farL_append (l m : List Ln) : farL (l ++ m) = (farL l || farL m) := by simp [farL]
theorem farL_one (x : Ln) : farL [x] = x.2.any farB := by simp [farL]
@[simp] theorem farL_nil : farL [] = false := rfl
def Fw.nums (f : Fw) : List Int := [f.id, f.fr, f.to, f.pe, f.ph, f.dl]
def Ce.nums (c : Ce) : List Int := [c.sl, c.of, c.fr, c.to, c.fl]
/-- The lines of a request. -/
def rtL (rs : List (List Int)) : List Ln := rs.map fun r => (wRoute, r)
def reqL1 (word : ByteArray) (q : Rq) : List Ln := (word, q.f.nums) :: rtL q.rs
def reqL (word : ByteArray) (q : List Rq) : List Ln := q.flatMap (reqL1 word)
/-- Whether a route, a request, requests cannot be written. -/
def rtBad (r : List Int) : Bool := ((r.length : Int) == 0) || decide ((r.length : Int) > 1024) || r.any farB
def qBad (q : Rq) : Bool := q.f.nums.any farB || decide ((q.rs.length : Int) > 1024) || q.rs.any rtBad
def qsBad (q : List Rq) : Bool := decide ((q.length : Int) > 1024) || q.any qBad
/-- The lines of a row of powers from the index b on. -/
def rowL (a : Nat) : Nat → List Int → List Ln
  | _, [] => []
  | b, p :: row => (if p = 0 then [] else [(wPower, [(a : Int), (b : Int), p])]) ++ rowL a (b + 1) row
def powL : Nat → List (List Int) → List Ln
  | _, [] => []
  | a, row :: rows => rowL a 0 row ++ powL (a + 1) rows
def linkL (n : Nt) : List Ln := (n.links.zip n.margin).map fun x => (wLink, [x.1.fr, x.1.to, x.1.ls, x.2])
def netL (n : Nt) : List Ln := (wNetwork, [n.nodes, n.noise, n.thr]) :: (powL 0 n.power ++ linkL n)
def chL (y : Ch) : Ln := (if y.ad then wAdd else wRemove, y.sl :: y.c.nums)
def wkL (y : Wk) : Ln := (wWeak, [y.fr, y.to, y.fi, y.un, y.re])
def ogL (y : Og) : Ln := (wOutage, [y.nd, y.fi, y.un])
/-- The lines of a scenario, in three parts. -/
def tailL (x : Sn) : List Ln :=
  (wSchedule, [x.len, x.offs]) :: (x.cells.map (fun c => (wCell, c.nums)) ++ (x.changes.map chL ++ (x.weak.map wkL ++ (x.outs.map ogL ++ [(wSlots, [x.slots])]))))
def linesOf (x : Sn) : List Ln := netL x.net ++ (reqL wBefore x.before ++ (reqL wAfter x.after ++ tailL x))
theorem reqL_take_succ {w : ByteArray} {q : List Rq} {k : Nat} {x : Rq} (h : q[k]? = some x) : reqL w (q.take (k + 1)) = reqL w (q.take k) ++ reqL1 w x := by
  unfold reqL
  rw [List.take_add_one, h, Option.toList_some, List.flatMap_append]
  simp
theorem map_take_succ {α β : Type} {f : α → β} {l : List α} {k : Nat} {x : α} (h : l[k]? = some x) : (l.take (k + 1)).map f = (l.take k).map f ++ [f x] := by
  rw [List.take_add_one, h, Option.toList_some, List.map_append]
  rfl
theorem rowL_append (a : Nat) : ∀ (b : Nat) (l m : List Int), rowL a b (l ++ m) = rowL a b l ++ rowL a (b + l.length) m
  | b, [], m => by simp [rowL]
  | b, p :: l, m => by
    rw [List.cons_append, rowL, rowL, rowL_append a (b + 1) l m, List.length_cons, List.append_assoc, show b + 1 + l.length = b + (l.length + 1) by omega]
theorem powL_append : ∀ (a : Nat) (l m : List (List Int)), powL a (l ++ m) = powL a l ++ powL (a + l.length) m
  | a, [], m => by simp [powL]
  | a, r :: l, m => by
    rw [List.cons_append, powL, powL, powL_append (a + 1) l m, List.length_cons, List.append_assoc, show a + 1 + l.length = a + (l.length + 1) by omega]
theorem rowL_take_succ {a k : Nat} {row : List Int} {p : Int} (h : row[k]? = some p) : rowL a 0 (row.take (k + 1)) = rowL a 0 (row.take k) ++ (if p = 0 then [] else [(wPower, [(a : Int), (k : Int), p])]) := by
  have hk := (List.getElem?_eq_some_iff.1 h).1
  rw [List.take_add_one, h, Option.toList_some, rowL_append, List.length_take, Nat.min_eq_left (Nat.le_of_lt hk), Nat.zero_add]
  simp [rowL]
theorem powL_take_succ {k : Nat} {rows : List (List Int)} {r : List Int} (h : rows[k]? = some r) : powL 0 (rows.take (k + 1)) = powL 0 (rows.take k) ++ rowL k 0 r := by
  have hk := (List.getElem?_eq_some_iff.1 h).1
  rw [List.take_add_one, h, Option.toList_some, powL_append, List.length_take, Nat.min_eq_left (Nat.le_of_lt hk), Nat.zero_add]
  simp [powL]
theorem split_at {α : Type} {l : List α} {k : Nat} {x : α} (h : l[k]? = some x) : l = l.take k ++ x :: l.drop (k + 1) := by
  obtain ⟨hk, rfl⟩ := List.getElem?_eq_some_iff.1 h
  rw [List.getElem_cons_drop, List.take_append_drop]
theorem txt_cons (x : Ln) (l : List Ln) : txt (x :: l) = lineB x.1 x.2 ++ [10] ++ txt l := by simp [txt]
theorem reqL_append (w : ByteArray) (p q : List Rq) : reqL w (p ++ q) = reqL w p ++ reqL w q := by simp [reqL]
theorem reqL_cons (w : ByteArray) (x : Rq) (q : List Rq) : reqL w (x :: q) = reqL1 w x ++ reqL w q := by simp [reqL]
theorem req_room {l : List UInt8} {w : ByteArray} {q : List Rq} {k : Nat} {x : Rq} {M : Nat} (h : q[k]? = some x) (hl : l.length + (txt (reqL w q)).length ≤ M) : (l ++ txt (reqL w (q.take k))).length + (txt (reqL1 w x)).length ≤ M := by
  rw [split_at h, reqL_append, reqL_cons, txt_append, txt_append, List.length_append, List.length_append] at hl
  rw [List.length_append]
  omega
theorem rt_room {T : List UInt8} {w : ByteArray} {ns : List Int} {rs : List (List Int)} {j : Nat} {r : List Int} {M : Nat} (h : rs[j]? = some r) (hl : T.length + (txt ((w, ns) :: rtL rs)).length ≤ M) : (T ++ txt ((w, ns) :: rtL (rs.take j))).length + (lineB wRoute r).length + 1 ≤ M := by
  have e : rtL rs = rtL (rs.take j) ++ (wRoute, r) :: rtL (rs.drop (j + 1)) := by
    conv => lhs; rw [split_at h]
    unfold rtL
    rw [List.map_append, List.map_cons]
  rw [e, txt_cons, txt_append, txt_cons] at hl
  rw [txt_cons]
  simp only [List.length_append, List.length_cons, List.length_nil] at hl ⊢
  omega
theorem rt_succ {w : ByteArray} {ns : List Int} {rs : List (List Int)} {j : Nat} {r : List Int} (h : rs[j]? = some r) : txt ((w, ns) :: rtL (rs.take (j + 1))) = txt ((w, ns) :: rtL (rs.take j)) ++ (lineB wRoute r ++ [10]) := by
  have e : rtL (rs.take (j + 1)) = rtL (rs.take j) ++ [(wRoute, r)] := map_take_succ h
  rw [e, txt_cons, txt_cons, txt_append, txt_one]
  simp only [List.append_assoc]
theorem any_succ {α : Type} {p : α → Bool} {l : List α} {k : Nat} {d : α} (h : l[k]? = some d) : (l.take (k + 1)).any p = ((l.take k).any p || p d) := by
  rw [List.take_add_one, h, Option.toList_some, List.any_append]
  simp
theorem txt_ge (l : List Ln) : l.length ≤ (txt l).length := by
  induction l with
  | nil => exact Nat.zero_le _
  | cons x l ih => rw [txt_cons]; simp only [List.length_append, List.length_cons, List.length_nil]; omega
theorem rtL_ge (rs : List (List Int)) : rs.length ≤ (txt (rtL rs)).length := by
  have := txt_ge (rtL rs)
  rwa [show (rtL rs).length = rs.length from List.length_map _] at this
theorem reqL_ge (w : ByteArray) (q : List Rq) : q.length ≤ (txt (reqL w q)).length := by
  induction q with
  | nil => exact Nat.zero_le _
  | cons x q ih => rw [reqL_cons, txt_append, reqL1, txt_cons]; simp only [List.length_append, List.length_cons, List.length_nil]; omega
end Sc
end Go.Proofs.YtcloigoajohppaaGreatDoor
/- Scenarios as data in memory. -/
namespace Go.Proofs.YtcloigoajohppaaGreatDoor
open Go.RowKit
open Av
namespace Sc
def Fw.pv (f : Fw) : List PV := [ip f.id, ip f.fr, ip f.to, ip f.pe, ip f.ph, ip f.dl]
def rsR (l : List (List Int)) : List (List PV) := l.map fun r => [PV.sl 1 (r.map fun n => [ip n])]
def Rq.pv (q : Rq) : List PV := [ip q.f.id, ip q.f.fr, ip q.f.to, ip q.f.pe, ip q.f.ph, ip q.f.dl, .sl 1 (rsR q.rs)]
def Ce.pv (c : Ce) : List PV := [ip c.sl, ip c.of, ip c.fr, ip c.to, ip c.fl]
def Ch.pv (y : Ch) : List PV := [ip y.sl, .v (.bool y.ad), ip y.c.sl, ip y.c.of, ip y.c.fr, ip y.c.to, ip y.c.fl]
def Wk.pv (y : Wk) : List PV := [ip y.fr, ip y.to, ip y.fi, ip y.un, ip y.re]
def Og.pv (y : Og) : List PV := [ip y.nd, ip y.fi, ip y.un]
def Lk.pv (y : Lk) : List PV := [ip y.fr, ip y.to, ip y.ls]
def Nt.pv (n : Nt) : List PV := [ip n.nodes, .sl 1 (rsR n.power), ip n.noise, ip n.thr, .sl 3 (n.links.map Lk.pv), .sl 1 (n.margin.map fun m => [ip m])]
def Sn.pv (x : Sn) : List PV := [ip x.net.nodes, .sl 1 (rsR x.net.power), ip x.net.noise, ip x.net.thr, .sl 3 (x.net.links.map Lk.pv), .sl 1 (x.net.margin.map fun m => [ip m]),
  .sl 7 (x.before.map Rq.pv), .sl 7 (x.after.map Rq.pv), ip x.len, ip x.offs, .sl 5 (x.cells.map Ce.pv), .sl 7 (x.changes.map Ch.pv), .sl 5 (x.weak.map Wk.pv), .sl 3 (x.outs.map Og.pv), ip x.slots]
/-- Numbers of 64 bits. -/
def r64 (n : Int) : Prop := -9223372036854775808 ≤ n ∧ n ≤ 9223372036854775807
def Lr (l : List Ln) : Prop := ∀ x ∈ l, ∀ n ∈ x.2, -9223372036854775808 ≤ n ∧ n ≤ 9223372036854775807
theorem Lr.head {x : Ln} {l : List Ln} (h : Lr (x :: l)) : ∀ n ∈ x.2, -9223372036854775808 ≤ n ∧ n ≤ 9223372036854775807 := h x (List.mem_cons_self)
theorem Lr.tail {x : Ln} {l : List Ln} (h : Lr (x :: l)) : Lr l := fun y hy => h y (List.mem_cons_of_mem _ hy)
theorem Lr.left {l m : List Ln} (h : Lr (l ++ m)) : Lr l := fun y hy => h y (List.mem_append_left _ hy)
theorem Lr.right {l m : List Ln} (h : Lr (l ++ m)) : Lr m := fun y hy => h y (List.mem_append_right _ hy)
end Sc
open Sc
section
variable {P : Program} {F : Fr}
/-- A piece of a walk that ends in one of some states. -/
theorem awp_cut {ι : Type} {id : Nat} {l : Array Oper} {dr : Bool} {y : Code} {Q : AX → St → Prop} {σ : St} (U : ι → St → St)
    (hx : ∀ R : St → Prop, (∀ i σ', σ'.Sub (U i σ) → R σ') → AWp P F (Code.region id l dr) (athen R Q) σ)
    (hy : ∀ i, AWp P F y Q (U i σ)) : AWp P F ((Code.region id l dr).seq y) Q σ :=
  awp_seq (hx _ fun i _ hs => awp_sub hs (hy i))
end
end Go.Proofs.YtcloigoajohppaaGreatDoor
/- Scenarios in plain Lean: room for the lines of a network. -/
namespace Go.Proofs.YtcloigoajohppaaGreatDoor
set_option linter.unusedSimpArgs false
set_option linter.unusedVariables false
namespace Sc
theorem rowL_split {a j : Nat} {row : List Int} {p : Int} (h : row[j]? = some p) : rowL a 0 row = rowL a 0 (row.take j) ++ ((if p = 0 then [] else [(wPower, [(a : Int), (j : Int), p])]) ++ rowL a (j + 1) (row.drop (j + 1))) := by
  conv => lhs; rw [split_at h]
  have hj := (List.getElem?_eq_some_iff.1 h).1
  rw [rowL_append, List.length_take, Nat.min_eq_left (Nat.le_of_lt hj), Nat.zero_add, rowL]
theorem powL_split {k : Nat} {rows : List (List Int)} {r : List Int} (h : rows[k]? = some r) : powL 0 rows = powL 0 (rows.take k) ++ (rowL k 0 r ++ powL (k + 1) (rows.drop (k + 1))) := by
  conv => lhs; rw [split_at h]
  have hj := (List.getElem?_eq_some_iff.1 h).1
  rw [powL_append, List.length_take, Nat.min_eq_left (Nat.le_of_lt hj), Nat.zero_add, powL]
theorem row_room {T : List UInt8} {a j M : Nat} {row : List Int} {p : Int} (h : row[j]? = some p) (hp : p ≠ 0) (hl : T.length + (txt (rowL a 0 row)).length ≤ M) : (T ++ txt (rowL a 0 (row.take j))).length + (lineB wPower [(a : Int), (j : Int), p]).length + 1 ≤ M := by
  rw [rowL_split h, if_neg hp, txt_append, txt_append, txt_one] at hl
  simp only [List.length_append, List.length_cons, List.length_nil] at hl ⊢
  omega
theorem row_range {a j : Nat} {row : List Int} {p : Int} (h : row[j]? = some p) (hp : p ≠ 0) (hr : Lr (rowL a 0 row)) : ∀ n ∈ [(a : Int), (j : Int), p], -9223372036854775808 ≤ n ∧ n ≤ 9223372036854775807 := by
  rw [rowL_split h, if_neg hp] at hr
  exact hr.right.left.head
theorem pow_room {T : List UInt8} {k M : Nat} {rows : List (List Int)} {r : List Int} (h : rows[k]? = some r) (hl : T.length + (txt (powL 0 rows)).length ≤ M) : (T ++ txt (powL 0 (rows.take k))).length + (txt (rowL k 0 r)).length ≤ M := by
  rw [powL_split h, txt_append, txt_append] at hl
  simp only [List.length_append] at hl ⊢
  omega
theorem pow_range {k : Nat} {rows : List (List Int)} {r : List Int} (h : rows[k]? = some r) (hr : Lr (powL 0 rows)) : Lr (rowL k 0 r) := by
  rw [powL_split h] at hr
  exact hr.right.left
def lkL (x : Lk × Int) : Ln := (wLink, [x.1.fr, x.1.to, x.1.ls, x.2])
/-- Room for one line of a list of lines. -/
theorem map_room {α : Type} {f : α → Ln} {T : List UInt8} {k M : Nat} {l : List α} {x : α} (h : l[k]? = some x) (hl : T.length + (txt (l.map f)).length ≤ M) : (T ++ txt ((l.take k).map f)).length + (lineB (f x).1 (f x).2).length + 1 ≤ M := by
  rw [split_at h, List.map_append, List.map_cons, txt_append, txt_cons] at hl
  simp only [List.length_append, List.length_cons, List.length_nil] at hl ⊢
  omega
theorem map_range {α : Type} {f : α → Ln} {k : Nat} {l : List α} {x : α} (h : l[k]? = some x) (hr : Lr (l.map f)) : ∀ n ∈ (f x).2, -9223372036854775808 ≤ n ∧ n ≤ 9223372036854775807 := by
  rw [split_at h, List.map_append, List.map_cons] at hr
  exact hr.right.head
theorem map_txt_succ {α : Type} {f : α → Ln} {k : Nat} {l : List α} {x : α} (h : l[k]? = some x) : txt ((l.take (k + 1)).map f) = txt ((l.take k).map f) ++ (lineB (f x).1 (f x).2 ++ [10]) := by
  rw [map_take_succ h, txt_append, txt_one]
theorem map_far_succ {α : Type} {f : α → Ln} {k : Nat} {l : List α} {x : α} (h : l[k]? = some x) : farL ((l.take (k + 1)).map f) = (farL ((l.take k).map f) || (f x).2.any farB) := by
  rw [map_take_succ h, farL_append, farL_one]
end Sc
end Go.Proofs.YtcloigoajohppaaGreatDoor
/- Scenarios in plain Lean: what Format returns. -/
namespace Go.Proofs.YtcloigoajohppaaGreatDoor
namespace Sc
/-- The first index that meets p, counted from k; -1: none. -/
def idxP {α : Type} (p : α → Bool) : List α → Int → Int
  | [], _ => -1
  | x :: l, k => if p x = true then k else idxP p l (k + 1)
theorem idx_any' {α : Type} (p : α → Bool) : ∀ (l : List α) (k : Int), 0 ≤ k → decide (idxP p l k ≥ 0) = l.any p
  | [], k, _ => by simp [idxP]
  | x :: l, k, hk => by
    unfold idxP
    cases h : p x with
    | true => simp [h, hk]
    | false => simp only [h, Bool.false_eq_true, if_false, List.any_cons, Bool.false_or]; exact idx_any' p l (k + 1) (by omega)
theorem idx_any {α : Type} (p : α → Bool) (l : List α) : decide (idxP p l 0 ≥ 0) = l.any p := idx_any' p l 0 (Int.le_refl _)
theorem drop_of_get {α : Type} {l : List α} {k : Nat} {y : α} (h : l[k]? = some y) : l.drop k = y :: l.drop (k + 1) := by
  obtain ⟨hk, rfl⟩ := List.getElem?_eq_some_iff.1 h
  rw [List.getElem_cons_drop]
def shaped (n : Nt) : Bool := !(decide (n.nodes < 0) || decide (n.nodes > 32) || ((n.power.length : Int) != n.nodes) || ((n.links.length : Int) != (n.margin.length : Int)) || decide ((n.links.length : Int) > 1024)) && !(n.power.any fun r => ((r.length : Int) != n.nodes))
def longX (x : Sn) : Bool := decide (max (max (max (x.cells.length : Int) x.changes.length) x.weak.length) x.outs.length > 1024)
/-- Whether a scenario's lines cannot be written. -/
def badB (x : Sn) : Bool := farL (netL x.net) || qsBad x.before || qsBad x.after || farL (tailL x)
/-- What Format returns. -/
def fmt (x : Sn) : ByteArray × Int := if (!shaped x.net || longX x || badB x) = true then (⟨#[]⟩, 1) else (⟨(txt (linesOf x)).toArray⟩, 0)
end Sc
end Go.Proofs.YtcloigoajohppaaGreatDoor
/- A builder's block is made: a box by hand. -/
namespace Go.Proofs.YtcloigoajohppaaGreatDoor
open Go.RowKit
namespace Av
section
variable {P : Program} {n d : Nat} {σ : St} {o : Oper} {K : St → Prop}
theorem hand_boxBld {T : TypeId} (u8 : TypeId) {x : Operand} {rest : List Value} (ho : o.op = .box T x) (hd : o.dst = some d) (hdn : d < n) (hx : evo (look σ.slot) x = some (.agg ((.pointer none :: .slice none 0 0 :: rest).map PV.v)))
    (h : ∀ b, K (({ σ with ext := σ.ext.and (bldE T u8 b false rest [] (.slice none 0 0)) } : St).put d (.v (.pointer (some ⟨b, 0, none⟩))))) : Hand P n σ o K := by
  refine hand_value hd hdn fun F γ a w _ hr => ⟨.v (.pointer (some ⟨w.heap.size, 0, none⟩)), .pointer (some ⟨w.heap.size, 0, none⟩), w.alloc (.cells (.pointer none :: .slice none 0 0 :: rest).toArray T), _, ?_, Turn.more (fun b hb => (hr.extf b hb).2.1) hr.exth ?_, rfl, (fun k hk => by cases hk), h _⟩
  · have e2 := eval_aggv hr hx
    simp [execOp, ho, e2, Instr.box, newVar, newRow, run_newObj_alloc, Value.cells]
  · have hb : Below w.heap.size w (w.alloc (.cells (.pointer none :: .slice none 0 0 :: rest).toArray T)) := (Below.refl _ w).alloc (Nat.le_refl _) _
    refine Turn.below hb ⟨heap_alloc_new w _, World.ownsRow_nil _ _ _ _, by simp [Value.ownBlock]⟩ (fun y hy => ?_) (fun y hy => hy.elim)
    right
    rcases hy with rfl | hy
    · simp
    · simp [Value.ownBlock] at hy
/-- The greatest of two. -/
def mx (u v : Int) : Int := if u < v then v else u
theorem hand_max4 {x y z t : Operand} {a b c e : Int} {ats : Array TypeId} (ho : o.op = .call { callee := .builtin .max, args := #[x, y, z, t], argTypes := ats }) (hd : o.dst = some d) (hdn : d < n)
    (hx : evo (look σ.slot) x = some (.v (.int .i64 a))) (hy : evo (look σ.slot) y = some (.v (.int .i64 b))) (hz : evo (look σ.slot) z = some (.v (.int .i64 c))) (ht : evo (look σ.slot) t = some (.v (.int .i64 e)))
    (h : K (σ.put d (.v (.int .i64 (mx (mx (mx a b) c) e))))) : Hand P n σ o K := by
  refine hand_pure hd hdn (fun F γ a' w hr => ?_) h
  have e1 := eval_raw hr hx
  have e2 := eval_raw hr hy
  have e3 := eval_raw hr hz
  have e4 := eval_raw hr ht
  simp only [execOp, ho, resolve, invoke, builtin, List.map_toArray, List.map_cons, List.map_nil, e1, e2, e3, e4, mx]
  simp [Builtin.max_, Builtin.max2]
  repeat (first | rfl | split)
end
end Av
end Go.Proofs.YtcloigoajohppaaGreatDoor
/- Texts in plain Lean: the pieces of a text between separators, and the numbers of a line. -/
namespace Go.Proofs.YtcloigoajohppaaGreatDoor
set_option linter.unusedSimpArgs false
set_option linter.unusedVariables false
namespace Sc
theorem size_list (s : ByteArray) : s.size = s.data.toList.length := (Array.length_toList (xs := s.data)).symm
end Sc
end Go.Proofs.YtcloigoajohppaaGreatDoor
/- Abstract states: a list of rows that the frame holds alone, whose cells may be lists: append to it by hand, and its end. Generic. -/
namespace Go.Proofs.YtcloigoajohppaaGreatDoor
open Go.RowKit
namespace Av
structure RowsOK (w : World) (e : TypeId) (sz : Nat) (q : Option Nat) (V : Value) (xs : List Value) (n : Nat) : Prop where
  own : OwnV w 0 e sz n V q
  len : xs.length = n * sz
  at_ : ∀ g, q = some g → ∀ (j : Nat) (u : Value), xs[j]? = some u → w.cell? ⟨g, j, none⟩ = some u
structure RowsRd (R : Reader) (sz : Nat) (xs : List Value) (rows : List (List PV)) : Prop where
  len : ∀ (k : Nat) (row : List PV), rows[k]? = some row → row.length = sz
  rd : ∀ (k : Nat) (row : List PV) (j : Nat) (p : PV), rows[k]? = some row → row[j]? = some p → ∃ x, xs[k * sz + j]? = some x ∧ RepP R p x
/-- A list of rows that nothing else reads: its block, its value, its cells' values, and what its rows are. -/
def rowsE (e : TypeId) (sz : Nat) (q : Option Nat) (V : Value) (xs : List Value) (rows : List (List PV)) : Ext where
  foot b := q = some b
  froz _ := False
  holds w := RowsOK w e sz q V xs rows.length
  stable {w w'} h hw := ⟨hw.own.keep fun g hg => h g (.inl hg), hw.len, fun g hg j u hu => (World.cell?_of_block (w := w) (a := ⟨g, j, none⟩) (h g (.inl hg))).trans (hw.at_ g hg j u hu)⟩
  reads R := RowsRd R sz xs rows
  rmono h hr := ⟨hr.len, fun k row j p h1 h2 => by obtain ⟨x, h3, h4⟩ := hr.rd k row j p h1 h2; exact ⟨x, h3, h4.mono h⟩⟩
/-- The same, saying nothing of what can be read. -/
def Ext.mute (E : Ext) : Ext := { E with reads := fun _ => True, rmono := fun _ _ => trivial }
section
variable {P : Program} {F : Fr} {σ : St} {γ : Gh} {a : Act} {w w1 : World} {E : Ext}
theorem Turn.mute {A : Ext} (h : Turn A w w1 E) : Turn A w w1 E.mute := ⟨h.os, h.tape, h.output, h.size, h.block, h.holds, h.foot, h.froz, h.laid, fun _ _ => trivial, h.veil⟩
theorem Turn.mute_right {A B C : Ext} (h : Turn A w w1 (B.and C.mute)) : Turn A w w1 (B.and C).mute := ⟨h.os, h.tape, h.output, h.size, h.block, h.holds, h.foot, h.froz, h.laid, fun _ _ => trivial, h.veil⟩
/-- The frame's reader goes by what the frame holds alone as to its blocks. -/
theorem rdr_foot {E' : Ext} (hf : E'.foot = E.foot) (hve : E'.veil = E.veil) : rdr F.R0 F.w0.heap.size { σ with ext := E' } γ w = rdr F.R0 F.w0.heap.size { σ with ext := E } γ w := by
  have hm : ∀ p, ({ σ with ext := E' } : St).mut γ p ↔ ({ σ with ext := E } : St).mut γ p := fun p => by
    unfold St.mut
    dsimp only
    rw [hf, hve]
    constructor
    · rintro (h | ⟨L, e, sz, rows, h1, h2, h3⟩ | h)
      · exact .inl h
      · exact .inr (.inl ⟨L, e, sz, rows, h1, by cases L <;> exact h2, h3⟩)
      · exact .inr (.inr h)
    · rintro (h | ⟨L, e, sz, rows, h1, h2, h3⟩ | h)
      · exact .inl h
      · exact .inr (.inl ⟨L, e, sz, rows, h1, by cases L <;> exact h2, h3⟩)
      · exact .inr (.inr h)
  funext p
  unfold rdr
  by_cases hB : p.block < F.w0.heap.size
  · rw [if_pos hB, if_pos hB]
  · rw [if_neg hB, if_neg hB]
    by_cases h : ({ σ with ext := E } : St).mut γ p
    · rw [if_pos h, if_pos ((hm p).2 h)]
    · rw [if_neg h, if_neg (fun h' => h ((hm p).1 h'))]
/-- What else the frame holds has changed, and what of it can be read. -/
theorem Rel.turnR (h : Rel F σ γ a w) (ht : Turn σ.ext w w1 E.mute) (hr : ∀ R, (∀ p v, rdr F.R0 F.w0.heap.size σ γ w p = some v → R p = some v) → σ.ext.reads R → E.reads R) : Rel F { σ with ext := E } γ a w1 := by
  have h1 := h.turn ht
  have hle := h.turn_le ht
  have he : rdr F.R0 F.w0.heap.size { σ with ext := E } γ w1 = rdr F.R0 F.w0.heap.size { σ with ext := E.mute } γ w1 := rdr_foot rfl rfl
  have h2 := hr _ hle (σ.ext.rmono hle h.extr)
  refine ⟨h1.defers, h1.size, h1.below, h1.r0, fun t x hx => ?_, fun k cs hk => ?_, h1.boxinj, fun L e sz hL => ?_, h1.rowinj, h1.rowbox, h1.exth, h1.extf, h1.small, h1.dyn, h1.laid, ?_⟩
  · rw [he]; exact h1.slots t x hx
  · rw [he]; exact h1.boxes k cs hk
  · obtain ⟨rows, v, h3, h4, h5⟩ := h1.owns L e sz hL
    exact ⟨rows, v, by cases L <;> exact h3, h4, h5⟩
  · rw [he]; exact h2
end
section
variable {P : Program} {n d : Nat} {σ : St} {o : Oper} {K : St → Prop}
/-- Append to such a list. -/
theorem hand_appendRow {s x : Operand} {t e : TypeId} {i : TypeInfo} {z : Value} {E0 : Ext} {q : Option Nat} {V : Value} {xs : List Value} {rows rows2 : List (List PV)} {sz : Nat}
    (ho : o.op = .call { callee := .builtin .append, args := #[s, x], argTypes := #[t, t] }) (hd : o.dst = some d) (hdn : d < n)
    (ht : P.underlying t = some (.slice e)) (hi : P.info? e = some i) (hz : i.zero = some z) (hsz : i.size = sz) (hzs : z.cells.size = i.size) (hs0 : 0 < i.size) (hby : i.bytes ≤ 1000000)
    (hE : σ.ext = E0.and (rowsE e sz q V xs rows)) (hs : evo (look σ.slot) s = some (.v V)) (hx : evo (look σ.slot) x = some (.sl sz rows2)) (hnm : rows.length + rows2.length ≤ 100000000)
    (h : ∀ q' V' xs', K (({ σ with ext := E0.and (rowsE e sz q' V' xs' (rows ++ rows2)) } : St).put d (.v V'))) : Hand P n σ o K := by
  subst hsz
  intro F γ a w hF hr Q
  have hext := hr.exth
  rw [hE] at hext
  obtain ⟨h0, hrow, hdis⟩ := hext
  have hrd := hr.extr
  rw [hE] at hrd
  have eV : a.eval s = V := eval_raw hr hs
  obtain ⟨A2, cap2, news, e2, hc2, hl2, hsz2, hz2, h12, hA2⟩ := rows_flat hs0 (show RepP _ (.sl i.size rows2) (a.eval x) from (evo_ok hr (fun _ _ _ hy => hy) hx).1)
  obtain ⟨v, w1, q', r1, r2, r3, r4, r5, r6, r7, r8, r9, r10⟩ := run_append_av (P := P) w 0 t o.type e i z ht hi hz hzs hs0 hby V rows.length xs q hrow.own hrow.len hrow.at_ A2 rows2.length cap2 news hl2 (by
    rcases hA2 with h1 | ⟨b, off, h1, h2⟩
    · exact .inl (by rw [h1]; rfl)
    · exact .inr ⟨b, off, h1, fun j x hx => hr.cell (h2 j x hx)⟩) h12 hnm (Nat.zero_le _)
  have hlen : (rows ++ rows2).length = rows.length + rows2.length := List.length_append
  unfold Oper.wp execOp
  simp only [ho, resolve, invoke, builtin, Sem.run_bind, Sem.run_pure, Result.andThen_ok, List.map_toArray, List.map_cons, List.map_nil, eV, e2, r1]
  show ∃ σ' γ', K σ' ∧ Rel F σ' γ' (a.put o.dst v) w1
  rw [hd]
  have hturn : Turn σ.ext w w1 (E0.and (rowsE e i.size q' v (xs ++ news) (rows ++ rows2))).mute := by
    rw [hE]
    refine Turn.mute_right (Turn.right (fun b hb => (hr.extf b (by rw [hE]; exact hb.elim (fun h => .inl (.inl h)) (fun h => .inr (.inl h)))).2.1) ⟨h0, hrow, hdis⟩ ⟨r7, r8, r9, r10, fun k hk hn => r4 k hk (fun e => hn e), ⟨by rw [hlen]; exact r2, by rw [List.length_append, hrow.len, hl2, hlen, Nat.add_mul], r3⟩, fun b hb => ?_, fun b hb => hb.elim, fun _ h => h, fun _ _ => trivial, fun p h => h.elim⟩)
    · rcases r6 with r6 | r6
      · exact .inl (by show q = some b; rw [← r6]; exact hb)
      · have hb' : q' = some b := hb
        rw [r6] at hb'
        cases hb'
        have : w.heap.size < w1.heap.size := by
          have := r2
          rw [r6] at this
          exact this.lt.2
        exact .inr ⟨Nat.le_refl _, this⟩
  refine ⟨_, γ, h q' v (xs ++ news), (hr.turnR hturn fun R hR hrdR => ?_).put (by rw [hF]; exact hdn) rfl (fun k hk => by cases hk)⟩
  rw [hE] at hrdR
  refine ⟨hrdR.1, fun k row hk => ?_, fun k row j p hk hj => ?_⟩
  · rcases Nat.lt_or_ge k rows.length with hlt | hge
    · rw [List.getElem?_append_left hlt] at hk; exact hrdR.2.len k row hk
    · rw [List.getElem?_append_right hge] at hk; exact hsz2 _ row hk
  · rcases Nat.lt_or_ge k rows.length with hlt | hge
    · rw [List.getElem?_append_left hlt] at hk
      obtain ⟨x, hx, h1⟩ := hrdR.2.rd k row j p hk hj
      exact ⟨x, by rw [List.getElem?_append_left (List.getElem?_eq_some_iff.1 hx).1]; exact hx, h1⟩
    · rw [List.getElem?_append_right hge] at hk
      obtain ⟨x, hx, h1⟩ := hz2 _ row j p hk hj
      refine ⟨x, ?_, h1.mono hR⟩
      have hge2 : xs.length ≤ k * i.size + j := by
        rw [hrow.len]
        have := Nat.mul_le_mul_right i.size hge
        omega
      rw [List.getElem?_append_right hge2, hrow.len]
      rw [show k * i.size + j - rows.length * i.size = (k - rows.length) * i.size + j by
        rw [Nat.sub_mul]
        have := Nat.mul_le_mul_right i.size hge
        omega]
      exact hx
def infoB (P : Program) (e : TypeId) (sz : Nat) : Bool :=
  match P.info? e with
  | some i => match i.zero with
    | some z => decide (i.size = sz) && decide (z.cells.size = i.size) && decide (0 < i.size) && decide (i.bytes ≤ 1000000)
    | none => false
  | none => false
theorem hand_appendB {s x : Operand} {t e : TypeId} {E0 : Ext} {q : Option Nat} {V : Value} {xs : List Value} {rows rows2 : List (List PV)} {sz : Nat}
    (ho : o.op = .call { callee := .builtin .append, args := #[s, x], argTypes := #[t, t] }) (hd : o.dst = some d) (hdn : d < n) (ht : P.underlying t = some (.slice e)) (hi : infoB P e sz = true)
    (hE : σ.ext = E0.and (rowsE e sz q V xs rows)) (hs : evo (look σ.slot) s = some (.v V)) (hx : evo (look σ.slot) x = some (.sl sz rows2)) (hnm : rows.length + rows2.length ≤ 100000000)
    (h : ∀ q' V' xs', K (({ σ with ext := E0.and (rowsE e sz q' V' xs' (rows ++ rows2)) } : St).put d (.v V'))) : Hand P n σ o K := by
  unfold infoB at hi
  cases h1 : P.info? e with
  | none => rw [h1] at hi; cases hi
  | some i =>
    rw [h1] at hi
    dsimp only at hi
    cases h2 : i.zero with
    | none => rw [h2] at hi; cases hi
    | some z =>
      rw [h2] at hi
      simp only [Bool.and_eq_true, decide_eq_true_eq] at hi
      obtain ⟨⟨⟨h3, h4⟩, h5⟩, h6⟩ := hi
      exact hand_appendRow ho hd hdn ht h1 h2 h3 h4 h5 h6 hE hs hx hnm h
/-- A list that is empty, held so. -/
theorem awp_rowsNil {F : Fr} {cd : Code} {Q : AX → St → Prop} (e : TypeId) (sz : Nat) (h : AWp P F cd Q { σ with ext := σ.ext.and (rowsE e sz none (.slice none 0 0) [] []) }) : AWp P F cd Q σ := fun γ a w hr => by
  have hk : ∀ {Q1 : Prop} {g : Nat}, (none : Option Nat) = some g → Q1 := fun h => by cases h
  have hd : (rowsE e sz none (.slice none 0 0) [] []).holds w := ⟨⟨rfl, rfl⟩, by simp, fun g hg => hk hg⟩
  have ht : Turn σ.ext w w (σ.ext.and (rowsE e sz none (.slice none 0 0) [] [])).mute :=
    Turn.mute_right (Turn.more (fun b hb => (hr.extf b hb).2.1) hr.exth (Turn.same (E0 := Ext.nil) (E := (rowsE e sz none (.slice none 0 0) [] []).mute) hd (fun b hb => hk (show (none : Option Nat) = some b from hb)) (fun b hb => hb.elim)))
  exact h γ a w (hr.turnR ht fun R _ hrd => ⟨hrd, fun k row hk' => by simp at hk', fun k row j p hk' => by simp at hk'⟩)
end
end Av
end Go.Proofs.YtcloigoajohppaaGreatDoor
