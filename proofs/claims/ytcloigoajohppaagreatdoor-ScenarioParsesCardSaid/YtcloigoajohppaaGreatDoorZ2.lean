import Derived.Maps.OwnOps
import Derived.Maps.Views
import Derived.Maps.Range
import Derived.Maps.RangeRun
import Derived.WideMake
import Derived.Lib.LaidTab
import Derived.Lib.Builder
import Derived.Lib.AppendStr
import Derived.Lib.BufferWrite
import Derived.Lib.BufferOwn
import Derived.Shelf.LaysM
import Derived.Shelf.Strconv.Itoa3
import Derived.Laws.Pointers
import Derived.Lib.ItoaLen
import Derived.Shelf.Abstract
import Derived.Lib.UnsafeStr
import Derived.Laws.Externs
import Derived.WalkKit
import Derived.RegionTactic
import Derived.Lib.ItoaMem
import Derived.Lib.AtoiTie
import Derived.Lib.SplitLaws
import Derived.Lib.SlTrimSet
import Derived.Lib.CutLaws
import Derived.Laws.OwnMore
import Derived.Test.YtcloigoajohppaaGreatDoorZ1
import Derived.Test.YtcloigoajohppaaGreatDoorProg
set_option linter.unusedVariables false
set_option linter.unusedSimpArgs false
set_option maxHeartbeats 4000000
/- Abstract states: what else a frame holds: how it changes; operations by hand. Generic. -/
namespace Go.Proofs.YtcloigoajohppaaGreatDoor
open Go.RowKit
namespace Av

structure Turn (E0 : Ext) (w w1 : World) (E : Ext) : Prop where
  os : w1.os = w.os
  tape : w1.tape = w.tape
  output : w1.output = w.output
  size : w.heap.size ≤ w1.heap.size
  block : ∀ k, k < w.heap.size → ¬ E0.foot k → w1.heap[k]? = w.heap[k]?
  holds : E.holds w1
  foot : ∀ b, E.foot b → E0.foot b ∨ (w.heap.size ≤ b ∧ b < w1.heap.size)
  froz : ∀ b, E.froz b → E0.foot b ∨ E0.froz b ∨ (w.heap.size ≤ b ∧ b < w1.heap.size)
  laid : ∀ w0, E0.laid w0 → E.laid w0 := by intros; repeat' (first | assumption | trivial | constructor)
  reads : ∀ R, E0.reads R → E.reads R := by intros; repeat' (first | assumption | trivial | constructor)
  veil : ∀ p, E.veil p → E0.veil p ∨ E0.foot p.block ∨ w.heap.size ≤ p.block := by intro p h; first | exact False.elim h | exact Or.inl h | (rcases h with h | h <;> first | exact False.elim h | exact Or.inl (Or.inl h) | exact Or.inl (Or.inr h))
theorem Turn.same {E0 E : Ext} {w : World} (h : E.holds w) (hf : ∀ b, E.foot b → E0.foot b) (hz : ∀ b, E.froz b → E0.foot b ∨ E0.froz b) (hl : ∀ w0, E0.laid w0 → E.laid w0 := by intros; repeat' (first | assumption | trivial | constructor)) (hrd : ∀ R, E0.reads R → E.reads R := by intros; repeat' (first | assumption | trivial | constructor)) (hv : ∀ p, E.veil p → E0.veil p ∨ E0.foot p.block ∨ w.heap.size ≤ p.block := by intro p h; first | exact False.elim h | exact Or.inl h | (rcases h with h | h <;> first | exact False.elim h | exact Or.inl (Or.inl h) | exact Or.inl (Or.inr h))) : Turn E0 w w E := ⟨rfl, rfl, rfl, Nat.le_refl _, fun _ _ _ => rfl, h, fun b hb => .inl (hf b hb), fun b hb => (hz b hb).elim .inl (fun h => .inr (.inl h)), hl, hrd, hv⟩
theorem Turn.below {E0 E : Ext} {w w1 : World} (hb : Below w.heap.size w w1) (h : E.holds w1) (hf : ∀ b, E.foot b → E0.foot b ∨ (w.heap.size ≤ b ∧ b < w1.heap.size)) (hz : ∀ b, E.froz b → E0.foot b ∨ E0.froz b ∨ (w.heap.size ≤ b ∧ b < w1.heap.size)) (hl : ∀ w0, E0.laid w0 → E.laid w0 := by intros; repeat' (first | assumption | trivial | constructor)) (hrd : ∀ R, E0.reads R → E.reads R := by intros; repeat' (first | assumption | trivial | constructor)) (hv : ∀ p, E.veil p → E0.veil p ∨ E0.foot p.block ∨ w.heap.size ≤ p.block := by intro p h; first | exact False.elim h | exact Or.inl h | (rcases h with h | h <;> first | exact False.elim h | exact Or.inl (Or.inl h) | exact Or.inl (Or.inr h))) : Turn E0 w w1 E := ⟨hb.os, hb.tape, hb.output, hb.size, fun k hk _ => hb.block k hk, h, hf, hz, hl, hrd, hv⟩
section
variable {P : Program} {F : Fr} {σ : St} {γ : Gh} {a : Act} {w w1 : World} {E : Ext}
theorem Rel.turn_le (h : Rel F σ γ a w) (ht : Turn σ.ext w w1 E) : ∀ p v, rdr F.R0 F.w0.heap.size σ γ w p = some v → rdr F.R0 F.w0.heap.size { σ with ext := E } γ w1 p = some v := by
  refine rdr_le fun p v hB hm hc => ?_
  have hlt := Rel.cell_lt hc
  have hne : ¬ σ.ext.foot p.block := fun hx => hm (.inr (.inr (.inl hx)))
  have hnv : ¬ σ.ext.veil p := fun hx => hm (.inr (.inr (.inr hx)))
  refine ⟨fun hm' => ?_, (World.cell?_of_block (w := w) (ht.block p.block hlt hne)).trans hc⟩
  rcases hm' with hm' | ⟨L, e, sz, rows, h1, h2, h3, h4⟩ | hx
  · exact hm (.inl hm')
  · exact hm (.inr (.inl ⟨L, e, sz, rows, h1, by cases L <;> exact h2, h3, h4⟩))
  · rcases hx with hx | hx
    · rcases ht.foot _ hx with h1 | h1
      · exact hne h1
      · omega
    · rcases ht.veil _ hx with h1 | h1 | h1
      · exact hnv h1
      · exact hne h1
      · omega
theorem Rel.turn (h : Rel F σ γ a w) (ht : Turn σ.ext w w1 E) : Rel F { σ with ext := E } γ a w1 := by
  have hle := h.turn_le ht
  have hboxb : ∀ k, (look σ.box k).isSome → w1.heap[γ.bx k]? = w.heap[γ.bx k]? := fun k hk => ht.block _ (h.box_lt hk).1 (fun hx => (h.extf _ (.inl hx)).2.2.1 k hk rfl)
  have hrowb : ∀ L g, (lookL σ.own L).isSome → γ.rw L = some g → w1.heap[g]? = w.heap[g]? := fun L g hL hg => ht.block _ (h.row_lt hL hg).1 (fun hx => (h.extf _ (.inl hx)).2.2.2 L hL hg)
  refine ⟨h.defers, h.size, h.below.trans ⟨ht.os, ht.tape, ht.output, ht.size, fun i hi => ht.block i (Nat.lt_of_lt_of_le hi h.base) (fun hx => by have := (h.extf _ (.inl hx)).1; omega)⟩, h.r0, fun t x hx => ?_, fun k cs hk => ?_, h.boxinj, fun L e sz hL => ?_, h.rowinj, h.rowbox, ht.holds, fun b hb => ?_, h.small, h.dyn, ht.laid _ h.laid, ht.reads _ (σ.ext.rmono hle h.extr)⟩
  · obtain ⟨h1, h2⟩ := h.slots t x hx
    exact ⟨h1.mono hle (fun _ _ => rfl), h2⟩
  · obtain ⟨us, ty, h1, h2, h3⟩ := h.boxes k cs hk
    exact ⟨us, ty, (hboxb k (by rw [show look σ.box k = _ from hk]; rfl)).trans h1, h2, h3.mono hle⟩
  · obtain ⟨rows, v, h1, h2, h3⟩ := h.owns L e sz hL
    have hs : (lookL σ.own L).isSome := by rw [show lookL σ.own L = _ from hL]; rfl
    refine ⟨rows, v, by cases L <;> exact h1, ?_, h3.keep fun g hg => hrowb L g hs hg⟩
    cases L with
    | s t => exact h2
    | b k off =>
      have hk : (look σ.box k).isSome := by
        cases hq : look σ.box k with
        | none => simp [St.avAt, hq] at h1
        | some _ => rfl
      exact (World.cell?_of_block (w := w) (a := ⟨γ.bx k, off, none⟩) (hboxb k hk)).trans h2
  · have hb' : (σ.ext.foot b ∨ σ.ext.froz b) ∨ (w.heap.size ≤ b ∧ b < w1.heap.size) := by
      rcases hb with hb | hb
      · exact (ht.foot b hb).elim (fun h => .inl (.inl h)) .inr
      · exact (ht.froz b hb).elim (fun h => .inl (.inl h)) (fun h => h.elim (fun h => .inl (.inr h)) .inr)
    rcases hb' with h1 | ⟨h1, h2⟩
    · obtain ⟨h3, h4, h5, h6⟩ := h.extf b h1
      exact ⟨h3, Nat.lt_of_lt_of_le h4 ht.size, h5, h6⟩
    · have := h.base
      refine ⟨by omega, h2, fun k hk e => ?_, fun L hL e => ?_⟩
      · have := (h.box_lt hk).1; omega
      · have := (h.row_lt hL e).1; omega
theorem hand_value {n : Nat} {o : Oper} {d : Nat} {K : St → Prop} (hd : o.dst = some d) (hdn : d < n)
    (h : ∀ (F : Fr) (γ : Gh) (a : Act) (w : World), F.n = n → Rel F σ γ a w → ∃ x v w1 E, (execOp a.eval o).run P w = .ok (.value v) w1 ∧ Turn σ.ext w w1 E ∧ RepA (rdr F.R0 F.w0.heap.size { σ with ext := E } γ w1) γ.bx x v ∧ (∀ k ∈ x.refs, (look σ.box k).isSome) ∧ K (({ σ with ext := E } : St).put d x)) : Hand P n σ o K := by
  intro F γ a w hF hr Q
  obtain ⟨x, v, w1, E, hrun, ht, hx, href, hK⟩ := h F γ a w hF hr
  unfold Oper.wp
  rw [hrun]
  show ∃ σ' γ', K σ' ∧ Rel F σ' γ' (a.put o.dst v) w1
  rw [hd]
  exact ⟨_, γ, hK, (hr.turn ht).put (by rw [hF]; exact hdn) hx href⟩
theorem hand_skip {n : Nat} {o : Oper} {K : St → Prop} (hd : o.dst = none)
    (h : ∀ (F : Fr) (γ : Gh) (a : Act) (w : World), F.n = n → Rel F σ γ a w → ∃ w1 E, (execOp a.eval o).run P w = .ok .skip w1 ∧ Turn σ.ext w w1 E ∧ K { σ with ext := E }) : Hand P n σ o K := by
  intro F γ a w hF hr Q
  obtain ⟨w1, E, hrun, ht, hK⟩ := h F γ a w hF hr
  unfold Oper.wp
  rw [hrun]
  show ∃ σ' γ', K σ' ∧ Rel F σ' γ' (a.put o.dst undef) w1
  rw [hd]
  exact ⟨_, γ, hK, hr.turn ht⟩
theorem Rel.val (h : Rel F σ γ a w) {t : Nat} {v : Value} (ht : look σ.slot t = some (.v v)) : a.tmps.getD t undef = v := (h.slots t _ ht).1
theorem Rel.agg (h : Rel F σ γ a w) {t : Nat} {xs : List PV} (ht : look σ.slot t = some (.agg xs)) : ∃ us, a.tmps.getD t undef = .agg us.toArray ∧ RepL (rdr F.R0 F.w0.heap.size σ γ w) xs us := (h.slots t _ ht).1
theorem rep_ints {R : Reader} : ∀ {xs : List Value} {us : List Value}, RepL R (xs.map PV.v) us → us = xs
  | [], _, h => by cases h; rfl
  | x :: xs, _, h => by
    cases h with
    | cons h1 h2 =>
      cases h1
      rw [rep_ints h2]
end
end Av
end Go.Proofs.YtcloigoajohppaaGreatDoor
/- Maps that a call makes, by what they hold at each key. Generic. -/
namespace Go.Proofs.YtcloigoajohppaaGreatDoor
open Go.RowKit Go.Maps
open Go.Maps (Keyed)
namespace Av

abbrev MReader := Value → Option (DataW Unit × List MemPlace)
def MapIs (w : World) (P : Program) (k : TypeId) (R : MReader) (b n : Nat) (G : Value → Option (DataW Unit)) : Prop :=
  ∃ D, w.ownsMap P k R b n D ∧ IsMap D ∧ ∀ key kl, keyOf P k key = some kl → match G key with | some d => ∀ z, D.atKey kl z = d | none => ∀ z, D.atKey kl z = z
section
variable {P : Program} {k : TypeId} {R : MReader} {b n : Nat} {G : Value → Option (DataW Unit)} {w w' : World}
theorem MapIs.made (w : World) : MapIs (w.alloc (.map #[] 0)) P k R w.heap.size 0 (fun _ => none) :=
  ⟨.map [], World.ownsMap_made w _ _ _, isMap_empty, fun _ _ _ _ => by simp [DataW.atKey]⟩
theorem MapIs.stable (h : MapIs w P k R b n G) (hb : w'.heap[b]? = w.heap[b]?) : MapIs w' P k R b n G := by
  obtain ⟨D, ⟨es, clock, h1, h2⟩, h3⟩ := h
  exact ⟨D, ⟨es, clock, hb.trans h1, h2⟩, h3⟩
theorem MapIs.lt (h : MapIs w P k R b n G) : b < w.heap.size := by
  obtain ⟨D, h1, _⟩ := h
  exact h1.lt
theorem MapIs.mono (h : MapIs w P k R b n G) {n' : Nat} (hn : n ≤ n') : MapIs w P k R b n' G := by
  obtain ⟨D, h1, h2⟩ := h
  exact ⟨D, h1.mono hn, h2⟩
theorem MapIs.look (h : MapIs w P k R b n G) (c : Bool) (K : Keyed P k) {t e : TypeId} (ht : P.underlying t = some (.map k e)) {z : Value} (hz : (zeroValue e).run P w = .ok z w) {key : Value} {kl : Lit} (hkey : keyOf P k key = some kl) :
    (G key = none ∧ (Instr.lookup t (.map (some b)) key c).run P w = .ok (if c then .tuple #[z, .bool false] else z) w) ∨
    ∃ v d ps, G key = some d ∧ R v = some (d, ps) ∧ (Instr.lookup t (.map (some b)) key c).run P w = .ok (if c then .tuple #[v, .bool true] else v) w := by
  obtain ⟨D, ⟨es, clock, hb, F, _, rfl⟩, _, h3⟩ := h
  have h4 := h3 key kl hkey
  rcases fit_look c K ht hz hb F hkey with ⟨hrun, _, hat⟩ | ⟨e0, y, _, _, hrun, hRv, hat, _⟩
  · refine .inl ⟨?_, hrun⟩
    cases hG : G key with
    | none => rfl
    | some d =>
      rw [hG] at h4
      have h5 := (hat (.lit (.bool true))).symm.trans (h4 _)
      have h6 := (hat (.lit (.bool false))).symm.trans (h4 _)
      rw [← h6] at h5
      cases h5
  · refine .inr ?_
    cases hG : G key with
    | none =>
      rw [hG] at h4
      have h5 := (hat (.lit (.bool true))).symm.trans (h4 _)
      have h6 := (hat (.lit (.bool false))).symm.trans (h4 _)
      rw [h5] at h6
      cases h6
    | some d =>
      rw [hG] at h4
      have h5 : y.1 = d := (hat .nil).symm.trans (h4 _)
      exact ⟨e0.val, d, y.2, rfl, by rw [hRv, ← h5], hrun⟩
open Classical in
theorem MapIs.put (h : MapIs w P k R b n G) (K : Keyed P k) {t e : TypeId} (ht : P.underlying t = some (.map k e)) (hn : n < maxLen) {key val : Value} {kl : Lit} {d : DataW Unit} {ps : List MemPlace} (hkey : keyOf P k key = some kl) (hv : R val = some (d, ps)) :
    ∃ w', (Instr.mapUpdate t (.map (some b)) key val).run P w = .ok () w' ∧ MapIs w' P k R b (n + 1) (fun x => if x = key then some d else G x) ∧ w.grownBy w' (some b) := by
  obtain ⟨D, h1, h2, h3⟩ := h
  obtain ⟨w', hrun, r1, r2⟩ := h1.update K ht hn hkey hv
  refine ⟨w', hrun, ⟨_, r1, h2.put _ _, fun x xl hx => ?_⟩, r2⟩
  show match (if x = key then some d else G x) with | some d => ∀ z, _ = d | none => ∀ z, _ = z
  by_cases e : x = key
  · subst e
    have : xl = kl := by rw [hx] at hkey; exact Option.some.inj hkey
    subst this
    rw [if_pos rfl]
    exact fun z => atKey_put_same h2 (K.key hkey) _ _
  · rw [if_neg e]
    have hne : xl ≠ kl := fun e' => e (K.inj hx (by rw [e']; exact hkey))
    have h4 := h3 x xl hx
    cases hG : G x with
    | none =>
      rw [hG] at h4
      exact fun z => (atKey_put_other hne _ _).trans (h4 z)
    | some d' =>
      rw [hG] at h4
      exact fun z => (atKey_put_other hne _ _).trans (h4 z)
end
end Av
end Go.Proofs.YtcloigoajohppaaGreatDoor
/- Ranges over maps that a call makes. Generic. -/
namespace Go.Proofs.YtcloigoajohppaaGreatDoor
open Go.RowKit Go.Maps
open Go.Maps (Keyed)
namespace Av

def RangeIs (w : World) (P : Program) (k : TypeId) (R : MReader) (b r n : Nat) (G : Value → Option (DataW Unit)) (S : Value → Prop) (cnt : Nat) : Prop :=
  ∃ D left, w.ranges P k R b r n D left cnt ∧ IsMap D ∧ (∀ key kl, keyOf P k key = some kl → match G key with | some d => ∀ z, D.atKey kl z = d | none => ∀ z, D.atKey kl z = z) ∧ ∀ key kl, keyOf P k key = some kl → (left kl = true ↔ S key)
section
variable {P : Program} {k : TypeId} {R : MReader} {b r n cnt : Nat} {G : Value → Option (DataW Unit)} {S : Value → Prop} {w w' : World}
theorem RangeIs.stable (h : RangeIs w P k R b r n G S cnt) (hb : w'.heap[b]? = w.heap[b]?) (hr : w'.heap[r]? = w.heap[r]?) : RangeIs w' P k R b r n G S cnt := by
  obtain ⟨D, left, ⟨es, clock, since, seen, c0, h1, h2, h3, h4, h5, h6⟩, h7⟩ := h
  exact ⟨D, left, ⟨es, clock, since, seen, c0, hb.trans h1, h2, h3, h4, hr.trans h5, h6⟩, h7⟩
theorem RangeIs.lt (h : RangeIs w P k R b r n G S cnt) : b < w.heap.size ∧ r < w.heap.size ∧ r ≠ b := by
  obtain ⟨D, left, h1, _⟩ := h
  exact ⟨h1.owns.lt, h1.lt, h1.ne⟩
theorem has_of_atKey {D : DataW Unit} {kl : Lit} {o : Option (DataW Unit)} (h : match o with | some d => ∀ z, D.atKey kl z = d | none => ∀ z, D.atKey kl z = z) : has D kl = true ↔ o.isSome = true := by
  cases o with
  | none => rw [has_false_of_atKey h]; simp
  | some d => rw [has_true_of_atKey h]; simp
theorem MapIs.range (h : MapIs w P k R b n G) (K : Keyed P k) {t e : TypeId} (ht : P.underlying t = some (.map k e)) :
    ∃ w' cnt, (Instr.range t (.map (some b))).run P w = .ok (.pointer (some ⟨w.heap.size, 0, none⟩)) w' ∧ RangeIs w' P k R b w.heap.size n G (fun key => (G key).isSome = true) cnt ∧ w.grownBy w' none ∧ w'.heap.size = w.heap.size + 1 := by
  obtain ⟨D, h1, h2, h3⟩ := h
  obtain ⟨w', hrun, r1, r2, r3⟩ := h1.range K ht
  exact ⟨w', _, hrun, ⟨D, _, r1, h2, h3, fun key kl hkey => has_of_atKey (h3 key kl hkey)⟩, r2, r3⟩
theorem RangeIs.next (h : RangeIs w P k R b r n G S cnt) (K : Keyed P k) (ty : TypeId) :
    ((∀ key kl, keyOf P k key = some kl → ¬ S key) ∧ (Instr.next (.pointer (some ⟨r, 0, none⟩)) false ty).run P w = .ok (.tuple #[.bool false]) w) ∨
    ∃ key v kl d ps w' cnt', keyOf P k key = some kl ∧ S key ∧ R v = some (d, ps) ∧ G key = some d ∧ (Instr.next (.pointer (some ⟨r, 0, none⟩)) false ty).run P w = .ok (.tuple #[.bool true, key, v]) w' ∧
      RangeIs w' P k R b r n G (fun x => S x ∧ x ≠ key) cnt' ∧ cnt' < cnt ∧ w.grownBy w' (some r) ∧ w'.heap.size = w.heap.size ∧ (Instr.entry (.pointer (some ⟨r, 0, none⟩))).run P w' = .ok (.tuple #[key, v]) w' := by
  obtain ⟨D, left, h1, h2, h3, h4⟩ := h
  rcases h1.next K ty with ⟨_, hl, hrun⟩ | ⟨key, v, kl, y, w', cnt', hkey, hlk, hv, hat, hrun, hrg, hlt, hgr, hsz, hen⟩
  · refine .inl ⟨fun key kl hkey hS => ?_, hrun⟩
    have h5 := (h4 key kl hkey).2 hS
    rw [hl] at h5
    cases h5
  · refine .inr ⟨key, v, kl, y.1, y.2, w', cnt', hkey, (h4 key kl hkey).1 hlk, hv, ?_, hrun, ⟨D, _, hrg, h2, h3, fun x xl hx => ?_⟩, hlt, hgr, hsz, hen⟩
    · have h5 := h3 key kl hkey
      cases hG : G key with
      | none =>
        rw [hG] at h5
        have h6 := (hat (.lit (.bool true))).symm.trans (h5 _)
        have h7 := (hat (.lit (.bool false))).symm.trans (h5 _)
        rw [h6] at h7; cases h7
      | some d =>
        rw [hG] at h5
        rw [← hat .nil, h5]
    · rw [Bool.and_eq_true, h4 x xl hx]
      refine and_congr_right fun _ => ?_
      constructor
      · intro h5 e
        subst e
        have : xl = kl := by rw [hx] at hkey; exact Option.some.inj hkey
        subst this
        rw [WideAt.sameKey_self (K.key hx)] at h5
        cases h5
      · intro h5
        cases hs : xl.sameKey kl with
        | false => rfl
        | true =>
          have := WideAt.sameKey_eq hs
          subst this
          exact absurd (K.inj hx hkey) h5
theorem RangeIs.entry (h : RangeIs w P k R b r n G S cnt) {v : Value} (he : (Instr.entry (.pointer (some ⟨r, 0, none⟩))).run P w = .ok v w) (hb : w'.heap[b]? = w.heap[b]?) (hr : w'.heap[r]? = w.heap[r]?) : (Instr.entry (.pointer (some ⟨r, 0, none⟩))).run P w' = .ok v w' := by
  obtain ⟨D, left, ⟨es, clock, since, seen, c0, h1, h2, h3, h4, h5, h6⟩, h7⟩ := h
  have hb1 := hb.trans h1
  have hr1 := hr.trans h5
  simp only [Instr.entry, getObj, Sem.run_bind, Sem.run, h5, Result.andThen] at he
  simp only [Instr.entry, getObj, Sem.run_bind, Sem.run, hr1, Result.andThen]
  cases hs : seen.back? with
  | none => simp only [hs] at he; cases he
  | some stamp =>
    simp only [hs, Sem.run_bind, Sem.run, h1, Result.andThen] at he
    simp only [hs, Sem.run_bind, Sem.run, hb1, Result.andThen]
    split at he
    · cases he
    · rename_i hc
      rw [if_neg hc]
      cases hf : es.find? (fun x => x.born == stamp) with
      | none => rw [hf] at he; cases he
      | some e =>
        rw [hf] at he
        simp only [Sem.run_pure, Result.ok.injEq, and_true] at he ⊢
        exact he
end
end Av
end Go.Proofs.YtcloigoajohppaaGreatDoor
/- Abstract states: maps that the frame holds besides. Generic. -/
namespace Go.Proofs.YtcloigoajohppaaGreatDoor
open Go.RowKit Go.Maps
open Go.Maps (Keyed)
namespace Av

def Ext.all (A : Ext) (b : Nat) : Prop := A.foot b ∨ A.froz b
def Ext.and (A B : Ext) : Ext where
  foot b := A.foot b ∨ B.foot b
  froz b := A.froz b ∨ B.froz b
  holds w := A.holds w ∧ B.holds w ∧ ∀ b, A.all b → ¬ B.all b
  stable h hw := ⟨A.stable (fun b hb => h b (hb.elim (fun h => .inl (.inl h)) (fun h => .inr (.inl h)))) hw.1, B.stable (fun b hb => h b (hb.elim (fun h => .inl (.inr h)) (fun h => .inr (.inr h)))) hw.2.1, hw.2.2⟩
  laid w := A.laid w ∧ B.laid w
  reads R := A.reads R ∧ B.reads R
  rmono h hr := ⟨A.rmono h hr.1, B.rmono h hr.2⟩
  veil p := A.veil p ∨ B.veil p
  veilz p h := h.imp (A.veilz p) (B.veilz p)
theorem Turn.all {A A' : Ext} {w w1 : World} (ht : Turn A w w1 A') {b : Nat} (hb : A'.all b) : A.all b ∨ (w.heap.size ≤ b ∧ b < w1.heap.size) := by
  rcases hb with hb | hb
  · exact (ht.foot b hb).elim (fun h => .inl (.inl h)) .inr
  · exact (ht.froz b hb).elim (fun h => .inl (.inl h)) (fun h => h.elim (fun h => .inl (.inr h)) .inr)
theorem Turn.left {A A' B : Ext} {w w1 : World} (hl : ∀ b, B.all b → b < w.heap.size) (hh : (A.and B).holds w) (ht : Turn A w w1 A') : Turn (A.and B) w w1 (A'.and B) := by
  obtain ⟨_, h2, h3⟩ := hh
  have hk : ∀ b, B.all b → ¬ A.foot b := fun b hb ha => h3 b (.inl ha) hb
  refine ⟨ht.os, ht.tape, ht.output, ht.size, fun k hk' hn => ht.block k hk' (fun ha => hn (.inl ha)), ⟨ht.holds, B.stable (fun b hb => ht.block b (hl b hb) (hk b hb)) h2, fun b ha hb => ?_⟩, fun b hb => ?_, fun b hb => ?_, fun w0 h => ⟨ht.laid w0 h.1, h.2⟩, fun R h => ⟨ht.reads R h.1, h.2⟩, fun p h => h.elim (fun h => (ht.veil p h).elim (fun h => .inl (.inl h)) (fun h => h.elim (fun h => .inr (.inl (.inl h))) (fun h => .inr (.inr h)))) (fun h => .inl (.inr h))⟩
  · rcases ht.all ha with h | h
    · exact h3 b h hb
    · have := hl b hb; omega
  · rcases hb with hb | hb
    · rcases ht.foot b hb with h | h
      · exact .inl (.inl h)
      · exact .inr h
    · exact .inl (.inr hb)
  · rcases hb with hb | hb
    · rcases ht.froz b hb with h | h | h
      · exact .inl (.inl h)
      · exact .inr (.inl (.inl h))
      · exact .inr (.inr h)
    · exact .inr (.inl (.inr hb))
theorem Turn.right {A B B' : Ext} {w w1 : World} (hl : ∀ b, A.all b → b < w.heap.size) (hh : (A.and B).holds w) (ht : Turn B w w1 B') : Turn (A.and B) w w1 (A.and B') := by
  obtain ⟨h1, _, h3⟩ := hh
  have hk : ∀ b, A.all b → ¬ B.foot b := fun b ha hb => h3 b ha (.inl hb)
  refine ⟨ht.os, ht.tape, ht.output, ht.size, fun k hk' hn => ht.block k hk' (fun ha => hn (.inr ha)), ⟨A.stable (fun b hb => ht.block b (hl b hb) (hk b hb)) h1, ht.holds, fun b ha hb => ?_⟩, fun b hb => ?_, fun b hb => ?_, fun w0 h => ⟨h.1, ht.laid w0 h.2⟩, fun R h => ⟨h.1, ht.reads R h.2⟩, fun p h => h.elim (fun h => .inl (.inl h)) (fun h => (ht.veil p h).elim (fun h => .inl (.inr h)) (fun h => h.elim (fun h => .inr (.inl (.inr h))) (fun h => .inr (.inr h))))⟩
  · rcases ht.all hb with h | h
    · exact h3 b ha h
    · have := hl b ha; omega
  · rcases hb with hb | hb
    · exact .inl (.inl hb)
    · rcases ht.foot b hb with h | h
      · exact .inl (.inr h)
      · exact .inr h
  · rcases hb with hb | hb
    · exact .inr (.inl (.inl hb))
    · rcases ht.froz b hb with h | h | h
      · exact .inl (.inr h)
      · exact .inr (.inl (.inr h))
      · exact .inr (.inr h)
theorem Turn.more {A B : Ext} {w w1 : World} (hl : ∀ b, A.all b → b < w.heap.size) (hh : A.holds w) (ht : Turn Ext.nil w w1 B) : Turn A w w1 (A.and B) := by
  have hB : ∀ b, B.all b → w.heap.size ≤ b ∧ b < w1.heap.size := fun b hb => (ht.all hb).resolve_left (fun h => h.elim (fun h => h.elim) (fun h => h.elim))
  refine ⟨ht.os, ht.tape, ht.output, ht.size, fun k hk' _ => ht.block k hk' (fun h => h.elim), ⟨A.stable (fun b hb => ht.block b (hl b hb) (fun h => h.elim)) hh, ht.holds, fun b ha hb => ?_⟩, fun b hb => ?_, fun b hb => ?_, fun w0 h => ⟨h, ht.laid w0 trivial⟩, fun R h => ⟨h, ht.reads R trivial⟩, fun p h => h.elim .inl (fun h => (ht.veil p h).elim (fun h => False.elim h) (fun h => h.elim (fun h => False.elim h) (fun h => .inr (.inr h))))⟩
  · have := hl b ha; have := hB b hb; omega
  · rcases hb with hb | hb
    · exact .inl hb
    · exact .inr (hB b (.inl hb))
  · rcases hb with hb | hb
    · exact .inr (.inl hb)
    · exact .inr (.inr (hB b (.inr hb)))
section
variable {P : Program} {k : TypeId} {R : MReader}
theorem rep_of_ints {R : Reader} : ∀ {xs : List Value}, (∀ x ∈ xs, x.oneCell' = true) → RepL R (xs.map PV.v) xs
  | [], _ => .nil
  | _ :: _, h => .cons (.v _ (h _ List.mem_cons_self)) (rep_of_ints fun x hx => h x (List.mem_cons_of_mem _ hx))
def mapE (P : Program) (k : TypeId) (R : MReader) (b n : Nat) (G : Value → Option (DataW Unit)) : Ext where
  foot x := x = b
  froz _ := False
  holds w := MapIs w P k R b n G
  stable h hw := hw.stable (h b (.inl rfl))
theorem Turn.mapMade (w : World) : Turn Ext.nil w (w.alloc (.map #[] 0)) (mapE P k R w.heap.size 0 fun _ => none) := by
  have hb : Below w.heap.size w (w.alloc (.map #[] 0)) := (Below.refl _ _).alloc (Nat.le_refl _) _
  exact Turn.below hb (MapIs.made w) (fun b hb => .inr (by subst hb; simp)) (fun b hb => hb.elim)
theorem Turn.grown {A B : Ext} {w w1 : World} {b : Nat} (hg : w.grownBy w1 (some b)) (hA : A.foot b) (hB : B.holds w1) (hf : ∀ x, B.foot x → A.foot x) (hz : ∀ x, B.froz x → A.foot x ∨ A.froz x) (hl : ∀ w0, A.laid w0 → B.laid w0 := by intros; repeat' (first | assumption | trivial | constructor)) (hrd : ∀ R, A.reads R → B.reads R := by intros; repeat' (first | assumption | trivial | constructor)) (hv : ∀ p, B.veil p → A.veil p ∨ A.foot p.block ∨ w.heap.size ≤ p.block := by intro p h; first | exact False.elim h | exact Or.inl h | (rcases h with h | h <;> first | exact False.elim h | exact Or.inl (Or.inl h) | exact Or.inl (Or.inr h))) : Turn A w w1 B :=
  ⟨hg.os, hg.tape, hg.output, hg.size, fun j hj hn => hg.block j hj (fun e => hn (by cases e; exact hA)), hB, fun x hx => .inl (hf x hx), fun x hx => (hz x hx).elim .inl (fun h => .inr (.inl h)), hl, hrd, hv⟩
variable {n d : Nat} {σ : St} {o : Oper} {K : St → Prop}
theorem hand_makeMap {T : TypeId} (k : TypeId) (R : MReader) (ho : o.op = .makeMap T none) (hd : o.dst = some d) (hdn : d < n) (h : ∀ b, K (({ σ with ext := σ.ext.and (mapE P k R b 0 fun _ => none) } : St).put d (.v (.map (some b))))) : Hand P n σ o K := by
  refine hand_value hd hdn fun F γ a w _ hr => ⟨.v (.map (some w.heap.size)), .map (some w.heap.size), w.alloc (.map #[] 0), _, ?_, Turn.more (fun b hb => (hr.extf b hb).2.1) hr.exth (Turn.mapMade w), rfl, (fun k hk => by cases hk), h _⟩
  simp [execOp, ho, Instr.makeMap]
theorem eval_raw {F : Fr} {γ : Gh} {a : Act} {w : World} (hr : Rel F σ γ a w) {x : Operand} {v : Value} (h : evo (look σ.slot) x = some (.v v)) : a.eval x = v := (evo_ok hr (fun _ _ _ hy => hy) h).1
theorem eval_aggv {F : Fr} {γ : Gh} {a : Act} {w : World} (hr : Rel F σ γ a w) {x : Operand} {xs : List Value} (h : evo (look σ.slot) x = some (.agg (xs.map PV.v))) : a.eval x = .agg xs.toArray := by
  obtain ⟨us, h1, h2⟩ := (evo_ok hr (fun _ _ _ hy => hy) h).1
  rw [h1, rep_ints h2]
end
end Av
end Go.Proofs.YtcloigoajohppaaGreatDoor
/- Abstract states: a call that is walked by hand; a box that gets its block's number as its name. Generic. -/
namespace Go.Proofs.YtcloigoajohppaaGreatDoor
open Go.RowKit
namespace Av
section
variable {P : Program} {F : Fr} {σ : St} {γ : Gh} {a : Act} {w : World}
theorem hand_call {n : Nat} {o : Oper} {d : Nat} {K : St → Prop} (hd : o.dst = some d)
    (h : ∀ (F : Fr) (γ : Gh) (a : Act) (w : World), F.n = n → Rel F σ γ a w → ∃ fid us, (execOp a.eval o).run P w = .ok (.enter fid us) w ∧
      Calls P fid us w fun e w1 => ∃ u σ' γ', e = .returned u ∧ K σ' ∧ Rel F σ' γ' (a.put (some d) u) w1) : Hand P n σ o K := by
  intro F γ a w hF hr Q
  obtain ⟨fid, us, hrun, hc⟩ := h F γ a w hF hr
  unfold Oper.wp
  rw [hrun, Oper.upon_enter, hd]
  refine hc.mono ?_
  rintro e w1 ⟨u, σ', γ', rfl, hK, hrel⟩
  exact ⟨σ', γ', hK, hrel⟩
end
end Av
end Go.Proofs.YtcloigoajohppaaGreatDoor
/- Functions whose contract asks something of the world: package-level tables. Generic. -/
namespace Go.Proofs.YtcloigoajohppaaGreatDoor
open Go.RowKit
namespace Av
def laidE (C : World → Prop) : Ext where
  foot _ := False
  froz _ := False
  holds _ := True
  stable _ _ := trivial
  laid := C
def startStC (C : World → Prop) (args : List AV) : St := { startSt args with ext := laidE C }
def FnOKC (P : Program) (C : World → Prop) (f : FuncId) (args : List AV) (res : FRes) : Prop :=
  Enters P f ∧ ∀ (w : World) (R : Reader), C w → (∀ p v, R p = some v → w.cell? p = some v) → ∀ us, RepAL R args us →
    Calls P f us.toArray w fun e w' => ∃ u, e = .returned u ∧ Below w.heap.size w w' ∧ ResRep R w w' res u
theorem FnOK.c {P : Program} {C : World → Prop} {f : FuncId} {args : List AV} {res : FRes} (h : FnOK P f args res) : FnOKC P C f args res := ⟨h.1, fun w R _ hR us hus => h.2 w R hR us hus⟩
theorem FnOKC.plain {P : Program} {f : FuncId} {args : List AV} {res : FRes} (h : FnOKC P (fun _ => True) f args res) : FnOK P f args res := ⟨h.1, fun w R hR us hus => h.2 w R trivial hR us hus⟩
section
variable {P : Program}
theorem fn_okC {C : World → Prop} {f : FuncId} {fn : Func} {c : Code} {args : List AV} {res : FRes} (hf : P.funcs[f]? = some fn) (hname : (fn.name == "runtime.NumGoroutine") = false) (hb : fn.body = some c) (hn : args.length ≤ fn.ntmps ∧ fn.ntmps ≤ 1000000)
    (h : ∀ F : Fr, F.n = fn.ntmps → AWp P F c (fun x σ => (match x with | .exit _ => False | _ => True) ∧ RetOK P fn.results σ res) (startStC C args)) : FnOKC P C f args res := by
  refine ⟨⟨fn, c, hf, hname, hb⟩, fun w R hC hR us hus => calls_of_wp hf hb ?_⟩
  have hlen := hus.length
  let F : Fr := ⟨R, w, fn.ntmps⟩
  have hmut : ∀ γ p, ¬ (startStC C args).mut γ p := fun γ p => by
    rintro (⟨k, cs, h1, _⟩ | ⟨L, e, sz, rows, h1, _⟩ | h1 | h1)
    · cases h1
    · cases h1
    · exact False.elim h1
    · exact False.elim h1
  let γ0 : Gh := ⟨fun _ => 0, fun _ => none⟩
  have hR0 : ∀ p v, R p = some v → rdr R w.heap.size (startStC C args) γ0 w p = some v := fun p v hp => by
    have := Rel.cell_lt (hR p v hp)
    unfold rdr
    rw [if_pos this]; exact hp
  have hrel : Rel F (startStC C args) γ0 { tmps := us.toArray ++ Array.replicate (fn.ntmps - us.toArray.size) undef, defers := [] } w := by
    refine ⟨rfl, ?_, Below.refl _ _, hR, fun t x hx => ?_, fun k cs hk => (by cases hk), fun k k' hk => (by cases hk), fun L e sz hL => (by cases hL), fun L L' g hL => (by cases hL), fun L k g hL => (by cases hL), trivial, fun b hb => hb.elim (fun (h : False) => h.elim) (fun (h : False) => h.elim), hn.2, fun k hk => (by cases hk), hC, trivial⟩
    · show _ = fn.ntmps
      simp; omega
    · have hx' : args[t]? = some x := by
        have := hx
        unfold startStC startSt at this
        rw [look_start] at this
        simpa using this
      obtain ⟨u, h1, h2, h3⟩ := hus.get hx'
      have ht : t < us.length := (List.getElem?_eq_some_iff.1 h1).1
      refine ⟨?_, fun k hk => by rw [h3] at hk; cases hk⟩
      have : (us.toArray ++ Array.replicate (fn.ntmps - us.toArray.size) undef).getD t undef = u := by
        rw [Array.getD_eq_getD_getElem?, Array.getElem?_append_left (by simpa using ht)]
        simp [h1]
      rw [this]
      exact h2.mono hR0 (fun k _ => rfl)
  refine wp_mono (h F rfl γ0 _ w hrel) ?_
  rintro e a' w' ⟨x, σ', γ', rfl, ⟨hx, hret⟩, hr'⟩
  have hbody : ∀ v, (results fn a'.tmps).run P w' = .ok v w' ∧ ResRep R w w' res v → bodyPost P fn (fun e w' => ∃ u, e = .returned u ∧ Below w.heap.size w w' ∧ ResRep R w w' res u) x.exit_ a' w' := fun v hv => by
    cases x with
    | normal => exact ⟨hr'.defers, v, hv.1, v, rfl, hr'.below, hv.2⟩
    | exit id => exact hx.elim
    | ret => exact ⟨hr'.defers, v, hv.1, v, rfl, hr'.below, hv.2⟩
  rcases hret with ⟨t, sz, rows, e, h1, h2, h3, rfl⟩ | hret
  · refine hbody (a'.tmps.getD t undef) ⟨by simp [results_eq, h1, resOne], ?_⟩
    obtain ⟨rows', v, h4, h5, h6⟩ := hr'.owns _ _ _ h3
    have h7 : look σ'.slot t = some (.sl sz rows') := h4
    rw [h2] at h7
    cases h7
    have h8 : v = a'.tmps.getD t undef := by simpa [valAt] using h5.symm
    subst h8
    refine ⟨γ'.rw (.s t), h6, RepP.mono (fun p v hp => ?_) (hr'.slots t _ h2).1⟩
    unfold fresh
    unfold rdr at hp
    by_cases hB : p.block < w.heap.size
    · rw [if_pos hB]; rw [if_pos hB] at hp; exact hp
    · rw [if_neg hB] at hp ⊢
      by_cases hm : σ'.mut γ' p
      · rw [if_pos hm] at hp; cases hp
      · rw [if_neg hm] at hp
        rw [if_neg]
        · exact hp
        · rintro ⟨h9, h10⟩
          exact hm (.inr (.inl ⟨.s t, e, sz, rows, h3, h2, h9, h10⟩))
  · obtain ⟨cs, vs, h1, h2, h3⟩ := retAll_ok hr' hret
    have hrun : (results fn a'.tmps).run P w' = .ok (if h : vs.toArray.size = 1 then vs.toArray[0] else .tuple vs.toArray) w' := by
      rw [results_eq, Array.mapM_eq_mapM_toList, Sem.run_bind, Sem.run_map, h3]
      rfl
    have hmono : ∀ {c : CV} {u : Value}, RepC (rdr R w.heap.size σ' γ' w') c u → RepA (fresh R w w' none 0) (fun _ => 0) c.av u := fun hc => (hc.mono rdr_fresh).av
    refine hbody _ ⟨hrun, ?_⟩
    subst h1
    cases h2 with
    | nil => exact ⟨rfl, [], by simp, .nil⟩
    | cons hc ht =>
      cases ht with
      | nil =>
        refine ⟨?_, by simpa using hmono hc⟩
        rename_i c _
        cases c with
        | c p => cases p <;> rfl
        | g xs => rfl
      | cons hc' ht' =>
        exact ⟨rfl, _, by simp, .cons (hc.mono rdr_fresh) (.cons (hc'.mono rdr_fresh) (ht'.mono rdr_fresh))⟩

theorem hand_fnC {C : World → Prop} {n d fid : Nat} {σ : St} {o : Oper} {K : St → Prop} {args : Array Operand} {ats : Array TypeId} {avs avs' : List AV} {res : FRes} (hst : ∀ {w w' : World}, Below w.heap.size w w' → C w → C w') (ho : o.op = .call { callee := .value (.func fid), args := args, argTypes := ats }) (hd : o.dst = some d) (hdn : d < n) (he : σ.ext = laidE C)
    (h3 : evos (look σ.slot) args.toList = some avs) (h4 : snaps (look σ.box) avs = some avs') (h5 : FnOKC P C fid avs' res) (h6 : (avs.all fun x => x.refs.isEmpty) = true) (h : K (σ.res d ⟨res.av, none, res.own⟩)) : Hand P n σ o K := by
  refine hand_call hd fun F γ a w hF hr => ?_
  have hC0 : C F.w0 := by have := hr.laid; rw [he] at this; exact this
  have hC : C w := hst hr.below hC0
  obtain ⟨henter, hcall⟩ := h5
  have gA := evos_ok hr (fun t y _ hy => hy) h3
  obtain ⟨_, g7⟩ := snaps_ok hr (fun _ _ h => h) gA h4
  have hf : a.eval (.func fid) = .func (.func fid) #[] #[] := rfl
  refine ⟨fid, args.map a.eval, ?_, ?_⟩
  · simp [execOp, ho, resolve, hf, Deferred.ofValue, invoke, run_callFunc henter]
  · have hargs : args.map a.eval = (args.toList.map a.eval).toArray := by
      obtain ⟨l⟩ := args
      simp
    rw [hargs]
    refine (hcall w _ hC (fun p v hp => hr.cell hp) _ (g7 h6)).mono ?_
    rintro e w1 ⟨u, rfl, hb, hres⟩
    obtain ⟨γ', _, hrel⟩ := hr.call hb (by rw [hF]; exact hdn) hres
    exact ⟨u, _, γ', rfl, h, hrel⟩
end
end Av
theorem tab_below {P : Program} {w w' : World} {name : String} {k : IntKind} {zs : List Int} (hb : Below w.heap.size w w') (h : Lib.TabIs P w name k zs) : Lib.TabIs P w' name k zs := by
  unfold Lib.TabIs World.var? at h ⊢
  cases hg : P.globalNamed name with
  | none => rw [hg] at h; cases h
  | some g =>
    rw [hg] at h
    simp only [Option.bind_some] at h ⊢
    have hlt : g < w.heap.size := by
      refine Classical.byContradiction fun hn => ?_
      rw [Array.getElem?_eq_none (by omega)] at h
      cases h
    rw [hb.block g hlt]
    exact h
end Go.Proofs.YtcloigoajohppaaGreatDoor
/- A function that has some boxes of its caller's for its own while it runs: a method, a closure. Generic. -/
namespace Go.Proofs.YtcloigoajohppaaGreatDoor
open Go.RowKit
namespace Av

structure BX where
  cs : List PV
  ow : List (Nat × (TypeId × Nat)) := []
inductive MA where
  | r (i off : Nat)
  | p (x : AV)
def MA.av (μ : Nat → Nat) : MA → AV
  | .r i off => .ref (μ i) off
  | .p x => x
def mOwn (G : Nat) (ow : List (Nat × (TypeId × Nat))) : List (Loc × (TypeId × Nat)) := ow.map fun x => (.b G x.1, x.2)
def nBoxes (μ : Nat → Nat) : Nat → List BX → List (Nat × List PV)
  | _, [] => []
  | i, b :: B => (μ i, b.cs) :: nBoxes μ (i + 1) B
def nOwn (μ : Nat → Nat) : Nat → List BX → List (Loc × (TypeId × Nat))
  | _, [] => []
  | i, b :: B => mOwn (μ i) b.ow ++ nOwn μ (i + 1) B
def boxesSt (sl : List (Nat × AV)) (μ : Nat → Nat) (B : List BX) (E : Ext) : St := ⟨sl, nBoxes μ 0 B, nOwn μ 0 B, E⟩
def nm (ν : Nat → Nat) (i : Nat) : Nat := ν i + 1000000
def Inj (μ : Nat → Nat) (n : Nat) : Prop := ∀ i j, i < n → j < n → μ i = μ j → i = j
theorem lookL_app : ∀ (l m : List (Loc × (TypeId × Nat))) (L : Loc), lookL (l ++ m) L = match lookL l L with | some e => some e | none => lookL m L
  | [], _, _ => rfl
  | (M, y) :: l, m, L => by
    rw [List.cons_append, lookL_cons, lookL_cons, lookL_app l m L]
    split <;> rfl
theorem lookL_mO (G o : Nat) : ∀ (ow : List (Nat × (TypeId × Nat))), lookL (mOwn G ow) (.b G o) = look ow o
  | [] => rfl
  | x :: ow => by
    unfold mOwn
    rw [List.map_cons, lookL_cons, look_cons]
    have ih := lookL_mO G o ow
    unfold mOwn at ih
    rw [ih]
    by_cases h : x.1 = o
    · subst h; rw [if_pos rfl, if_pos rfl]
    · rw [if_neg h, if_neg (fun e => h (by cases e; rfl))]
theorem lookL_mOwn {G : Nat} : ∀ {ow : List (Nat × (TypeId × Nat))} {L : Loc} {e : TypeId × Nat}, lookL (mOwn G ow) L = some e → ∃ off, L = .b G off
  | [], _, _, h => by cases h
  | x :: ow, L, e, h => by
    unfold mOwn at h
    rw [List.map_cons, lookL_cons] at h
    split at h
    · rename_i hk; exact ⟨x.1, hk.symm⟩
    · exact lookL_mOwn h
section
variable {μ : Nat → Nat}
theorem nBoxes_inv : ∀ {B : List BX} {i k : Nat} {cs : List PV}, look (nBoxes μ i B) k = some cs → ∃ j b, B[j]? = some b ∧ k = μ (i + j) ∧ cs = b.cs
  | [], i, k, cs, h => by cases h
  | b :: B, i, k, cs, h => by
    unfold nBoxes at h
    rw [look_cons] at h
    split at h
    · rename_i hk; cases h; exact ⟨0, b, rfl, hk.symm, rfl⟩
    · obtain ⟨j, c, h1, h2, h3⟩ := nBoxes_inv h
      exact ⟨j + 1, c, h1, by rw [h2]; congr 1; omega, h3⟩
theorem nBoxes_at : ∀ {B : List BX} {i j : Nat} {b : BX}, Inj μ (i + B.length) → B[j]? = some b → look (nBoxes μ i B) (μ (i + j)) = some b.cs
  | [], i, j, b, _, h => by simp at h
  | c :: B, i, j, b, hi, h => by
    unfold nBoxes
    rw [look_cons]
    cases j with
    | zero => simp at h; subst h; rw [Nat.add_zero, if_pos rfl]
    | succ j =>
      have hj : j < B.length := by
        have := (List.getElem?_eq_some_iff.1 h).1
        simpa using this
      rw [if_neg (fun e => by
        have := hi i (i + (j + 1)) (by simp) (by simp; omega) e
        omega), show i + (j + 1) = (i + 1) + j by omega]
      exact nBoxes_at (by rw [show i + 1 + B.length = i + (c :: B).length by simp; omega]; exact hi) (by simpa using h)
theorem nOwn_inv : ∀ {B : List BX} {i : Nat} {L : Loc} {e : TypeId × Nat}, lookL (nOwn μ i B) L = some e → ∃ j b o, B[j]? = some b ∧ L = .b (μ (i + j)) o ∧ look b.ow o = some e
  | [], i, L, e, h => by cases h
  | b :: B, i, L, e, h => by
    unfold nOwn at h
    rw [lookL_app] at h
    cases hq : lookL (mOwn (μ i) b.ow) L with
    | some e' =>
      rw [hq] at h
      cases h
      obtain ⟨o, rfl⟩ := lookL_mOwn hq
      rw [lookL_mO] at hq
      exact ⟨0, b, o, rfl, rfl, hq⟩
    | none =>
      rw [hq] at h
      obtain ⟨j, c, o, h1, h2, h3⟩ := nOwn_inv h
      exact ⟨j + 1, c, o, h1, by rw [h2]; congr 2; omega, h3⟩
end
def RepM (R : Reader) (ν : Nat → Nat) (n : Nat) : MA → Value → Prop
  | .r i off, u => i < n ∧ u = .pointer (some ⟨ν i, off, none⟩)
  | .p x, u => x.refs = [] ∧ RepA R (fun _ => 0) x u
inductive RepML (R : Reader) (ν : Nat → Nat) (n : Nat) : List MA → List Value → Prop
  | nil : RepML R ν n [] []
  | cons {x : MA} {u : Value} {xs : List MA} {us : List Value} (h : RepM R ν n x u) (t : RepML R ν n xs us) : RepML R ν n (x :: xs) (u :: us)
theorem RepML.length {R : Reader} {ν : Nat → Nat} {n : Nat} {xs : List MA} {us : List Value} (h : RepML R ν n xs us) : us.length = xs.length := by
  induction h with
  | nil => rfl
  | cons _ _ ih => simp [ih]
theorem RepML.get {R : Reader} {ν : Nat → Nat} {n : Nat} {xs : List MA} {us : List Value} (h : RepML R ν n xs us) : ∀ {i : Nat} {x : MA}, xs[i]? = some x → ∃ u, us[i]? = some u ∧ RepM R ν n x u := by
  induction h with
  | nil => intro i x hx; simp at hx
  | cons h _ ih =>
    intro i x hx
    cases i with
    | zero => simp at hx; subst hx; exact ⟨_, rfl, h⟩
    | succ i => simpa using ih (by simpa using hx)
theorem mut_slots {sl sl' : List (Nat × AV)} {μ : Nat → Nat} {B : List BX} {E : Ext} {γ : Gh} {p : Addr} (h : (boxesSt sl μ B E).mut γ p) : (boxesSt sl' μ B E).mut γ p := by
  rcases h with h | ⟨L, e, sz, rows, h1, h2, h3, h4⟩ | h
  · exact .inl h
  · obtain ⟨j, b, o, _, rfl, _⟩ := nOwn_inv h1
    exact .inr (.inl ⟨_, e, sz, rows, h1, h2, h3, h4⟩)
  · exact .inr (.inr h)
theorem rdr_slots {R : Reader} {N : Nat} {sl sl' : List (Nat × AV)} {μ : Nat → Nat} {B : List BX} {E : Ext} {γ : Gh} {w : World} : rdr R N (boxesSt sl μ B E) γ w = rdr R N (boxesSt sl' μ B E) γ w := by
  funext p
  have : (boxesSt sl μ B E).mut γ p ↔ (boxesSt sl' μ B E).mut γ p := ⟨mut_slots, mut_slots⟩
  unfold rdr
  by_cases h : (boxesSt sl μ B E).mut γ p
  · rw [if_pos h, if_pos (this.1 h)]
  · rw [if_neg h, if_neg (fun h' => h (this.2 h'))]
theorem Rel.reAct {F : Fr} {n : Nat} {sl sl' : List (Nat × AV)} {μ : Nat → Nat} {B : List BX} {E : Ext} {γ : Gh} {a a' : Act} {w : World} (h : Rel F (boxesSt sl μ B E) γ a w) (hd : a'.defers = []) (hs : a'.tmps.size = n) (hn : n ≤ 1000000)
    (hsl : ∀ t x, look sl' t = some x → RepA (rdr F.R0 F.w0.heap.size (boxesSt sl μ B E) γ w) γ.bx x (a'.tmps.getD t undef) ∧ ∀ k ∈ x.refs, (look (nBoxes μ 0 B) k).isSome) : Rel { F with n := n } (boxesSt sl' μ B E) γ a' w := by
  refine ⟨hd, hs, h.below, h.r0, fun t x hx => ?_, fun k cs' hk => ?_, h.boxinj, fun L e sz hL => ?_, h.rowinj, h.rowbox, h.exth, h.extf, hn, h.dyn, h.laid, ?_⟩
  · show RepA (rdr F.R0 F.w0.heap.size (boxesSt sl' μ B E) γ w) _ _ _ ∧ _
    rw [rdr_slots (sl' := sl)]
    exact hsl t x hx
  · obtain ⟨us, ty, h1, h2, h3⟩ := h.boxes k cs' hk
    refine ⟨us, ty, h1, h2, ?_⟩
    show RepL (rdr F.R0 F.w0.heap.size (boxesSt sl' μ B E) γ w) _ _
    rw [rdr_slots (sl' := sl)]
    exact h3
  · obtain ⟨j, b, o, _, rfl, _⟩ := nOwn_inv hL
    exact h.owns _ e sz hL
  · show E.reads (rdr F.R0 F.w0.heap.size (boxesSt sl' μ B E) γ w)
    rw [rdr_slots (sl' := sl)]
    exact h.extr
def RetO (G : Nat) (σ : St) : List (Nat × (TypeId × Nat)) → Prop
  | [] => True
  | x :: l => lookL σ.own (.b G x.1) = some x.2 ∧ RetO G σ l
def RetB (μ : Nat → Nat) (σ : St) : Nat → List BX → Prop
  | _, [] => True
  | i, b :: B => look σ.box (μ i) = some b.cs ∧ RetO (μ i) σ b.ow ∧ RetB μ σ (i + 1) B
theorem RetO.at {G : Nat} {σ : St} : ∀ {l : List (Nat × (TypeId × Nat))}, RetO G σ l → ∀ {o : Nat} {e : TypeId × Nat}, look l o = some e → lookL σ.own (.b G o) = some e
  | [], _, o, e, h => by cases h
  | x :: l, hr, o, e, h => by
    rw [look_cons] at h
    split at h
    · rename_i hx; subst hx; cases h; exact hr.1
    · exact RetO.at hr.2 h
theorem RetB.at {μ : Nat → Nat} {σ : St} : ∀ {B : List BX} {i : Nat}, RetB μ σ i B → ∀ {j : Nat} {b : BX}, B[j]? = some b → look σ.box (μ (i + j)) = some b.cs ∧ RetO (μ (i + j)) σ b.ow
  | [], _, _, j, b, h => by simp at h
  | c :: B, i, hr, j, b, h => by
    cases j with
    | zero => simp at h; subst h; exact ⟨hr.1, hr.2.1⟩
    | succ j =>
      have := RetB.at hr.2.2 (j := j) (b := b) (by simpa using h)
      rw [show i + (j + 1) = i + 1 + j by omega]
      exact this
section
variable {P : Program}
end
end Av
end Go.Proofs.YtcloigoajohppaaGreatDoor
/- A function with lent boxes is called: the frame rule. Generic. -/
namespace Go.Proofs.YtcloigoajohppaaGreatDoor
open Go.RowKit
namespace Av

def atK (ks : List Nat) : Loc → Bool
  | .b j _ => ks.contains j
  | .s _ => false
def kn (ks : List Nat) (i : Nat) : Nat := ks.getD i 0
theorem kn_inj {ks : List Nat} (h : ks.Nodup) : Inj (kn ks) ks.length := fun i j hi hj e => by
  unfold kn at e
  rw [List.getD_eq_getElem?_getD, List.getD_eq_getElem?_getD, List.getElem?_eq_getElem hi, List.getElem?_eq_getElem hj, Option.getD_some, Option.getD_some] at e
  rcases Nat.lt_trichotomy i j with h1 | h1 | h1
  · exact absurd e (List.pairwise_iff_getElem.1 h i j hi hj h1)
  · exact h1
  · exact absurd e.symm (List.pairwise_iff_getElem.1 h j i hj hi h1)
theorem kn_mem {ks : List Nat} {i : Nat} (hi : i < ks.length) : kn ks i ∈ ks := by
  unfold kn
  rw [List.getD_eq_getElem?_getD, List.getElem?_eq_getElem hi]
  exact List.getElem_mem hi
theorem atK_kn {ks : List Nat} {i o : Nat} (hi : i < ks.length) : atK ks (.b (kn ks i) o) = true := by
  simpa [atK] using kn_mem hi
section
variable {σ : St} {ks : List Nat} {B : List BX}
end
def lendE (σ : St) (ks : List Nat) (γ : Gh) (a : Act) (w : World) : Ext where
  foot b := σ.ext.foot b ∨ ∃ j cs, j ∉ ks ∧ look σ.box j = some cs ∧ b = γ.bx j
  froz b := σ.ext.froz b ∨ ∃ L e, lookL σ.own L = some e ∧ atK ks L = false ∧ γ.rw L = some b
  holds w' := σ.ext.holds w' ∧ (∀ j cs, j ∉ ks → look σ.box j = some cs → w'.heap[γ.bx j]? = w.heap[γ.bx j]?) ∧ ∀ L e b, lookL σ.own L = some e → atK ks L = false → γ.rw L = some b → w'.heap[b]? = w.heap[b]?
  stable h hw := ⟨σ.ext.stable (fun b hb => h b (hb.elim (fun h => .inl (.inl h)) (fun h => .inr (.inl h)))) hw.1, fun j cs hj hk => (h _ (.inl (.inr ⟨j, cs, hj, hk, rfl⟩))).trans (hw.2.1 j cs hj hk), fun L e b h1 h2 h3 => (h b (.inr (.inr ⟨L, e, h1, h2, h3⟩))).trans (hw.2.2 L e b h1 h2 h3)⟩
  laid := σ.ext.laid
  reads R := σ.ext.reads R ∧ (∀ t x, look σ.slot t = some x → RepA R γ.bx x (a.tmps.getD t undef)) ∧ ∀ j cs, j ∉ ks → look σ.box j = some cs → ∃ (us : List Value) (ty : TypeId), w.heap[γ.bx j]? = some (.cells us.toArray ty (0, 0)) ∧ RepL R cs us
  rmono h hr := ⟨σ.ext.rmono h hr.1, fun t x hx => (hr.2.1 t x hx).mono h (fun _ _ => rfl), fun j cs hj hk => by
    obtain ⟨us, ty, h1, h2⟩ := hr.2.2 j cs hj hk
    exact ⟨us, ty, h1, h2.mono h⟩⟩
  veil p := σ.ext.veil p ∨ ∃ L e sz rows, lookL σ.own L = some (e, sz) ∧ atK ks L = false ∧ σ.avAt L = some (.sl sz rows) ∧ γ.rw L = some p.block ∧ rows.length * sz ≤ p.off
  veilz p h := h.elim (fun h => .inl (σ.ext.veilz p h)) (fun ⟨L, e, sz, _, h1, h2, _, h3, _⟩ => .inr ⟨L, (e, sz), h1, h2, h3⟩)
def bn (γ : Gh) (ks : List Nat) (i : Nat) : Nat := γ.bx (kn ks i)
noncomputable def un (γ : Gh) (ks : List Nat) (j : Nat) : Nat := by
  classical
  exact if h : ∃ i, i < ks.length ∧ nm (bn γ ks) i = j then h.choose else 0
noncomputable def lendG (γ : Gh) (ks : List Nat) : Gh := { bx := fun j => bn γ ks (un γ ks j), rw := fun L => match L with | .b j o => γ.rw (.b (kn ks (un γ ks j)) o) | .s _ => none }
section
variable {P : Program} {F : Fr} {σ : St} {γ : Gh} {a : Act} {w : World}
theorem un_at {ks : List Nat} (hinj : Inj (bn γ ks) ks.length) {i : Nat} (hi : i < ks.length) : un γ ks (nm (bn γ ks) i) = i := by
  have h : ∃ i', i' < ks.length ∧ nm (bn γ ks) i' = nm (bn γ ks) i := ⟨i, hi, rfl⟩
  unfold un
  rw [dif_pos h]
  have h1 := h.choose_spec
  exact hinj _ _ h1.1 hi (Nat.add_right_cancel h1.2)
theorem lend_le (h : Rel F σ γ a w) {ks : List Nat} {B : List BX} (hinj : Inj (bn γ ks) ks.length) (hl : B.length = ks.length) (hB : RetB (kn ks) σ 0 B) :
    ∀ p v, rdr F.R0 F.w0.heap.size σ γ w p = some v → rdr F.R0 F.w0.heap.size (boxesSt [] (nm (bn γ ks)) B (lendE σ ks γ a w)) (lendG γ ks) w p = some v := by
  have hinjN : Inj (nm (bn γ ks)) (0 + B.length) := fun i j hi hj e => hinj i j (by omega) (by omega) (by unfold nm at e; omega)
  refine rdr_le fun p v hb hm hc => ⟨fun hm' => hm ?_, hc⟩
  rcases hm' with ⟨j, cs1, hj, hp⟩ | ⟨L, e, sz, rows, h1, h2, h3, h4⟩ | (hx | hx)
  · obtain ⟨i, b, hi, rfl, rfl⟩ := nBoxes_inv hj
    have hil : i < ks.length := by rw [← hl]; exact (List.getElem?_eq_some_iff.1 hi).1
    have hbx := (hB.at hi).1
    rw [Nat.zero_add] at hbx hp
    refine .inl ⟨kn ks i, b.cs, hbx, ?_⟩
    show p.block = bn γ ks i
    rw [hp]
    show bn γ ks (un γ ks (nm (bn γ ks) i)) = _
    rw [un_at hinj hil]
  · obtain ⟨i, b, o, hi, rfl, ho⟩ := nOwn_inv h1
    have hil : i < ks.length := by rw [← hl]; exact (List.getElem?_eq_some_iff.1 hi).1
    obtain ⟨hb1, hb2⟩ := hB.at hi
    rw [Nat.zero_add] at hb1 hb2 h2 h3
    refine .inr (.inl ⟨.b (kn ks i) o, e, sz, rows, hb2.at ho, ?_, ?_, h4⟩)
    · have hat := nBoxes_at (μ := nm (bn γ ks)) (i := 0) (j := i) hinjN hi
      rw [Nat.zero_add] at hat
      have h2' : ((look (nBoxes (nm (bn γ ks)) 0 B) (nm (bn γ ks) i)).bind (·[o]?)).map PV.av = some (.sl sz rows) := h2
      rw [hat] at h2'
      show ((look σ.box (kn ks i)).bind (·[o]?)).map PV.av = _
      rw [hb1]; exact h2'
    · have h3' : γ.rw (.b (kn ks (un γ ks (nm (bn γ ks) i))) o) = some p.block := h3
      rw [un_at hinj hil] at h3'
      exact h3'
  · rcases hx with hx | ⟨j, cs1, _, hj, hp⟩
    · exact .inr (.inr (.inl hx))
    · exact .inl ⟨j, cs1, hj, hp⟩
  · rcases hx with hx | ⟨L, e, sz, rows, h1, _, h2, h3, h4⟩
    · exact .inr (.inr (.inr hx))
    · exact .inr (.inl ⟨L, e, sz, rows, h1, h2, h3, h4⟩)
theorem lend_inj (h : Rel F σ γ a w) {ks : List Nat} {B : List BX} (hnd : ks.Nodup) (hl : B.length = ks.length) (hB : RetB (kn ks) σ 0 B) : Inj (bn γ ks) ks.length := fun i j hi hj e => by
  have hs : ∀ i, i < ks.length → (look σ.box (kn ks i)).isSome := fun i hi => by
    have := (hB.at (List.getElem?_eq_getElem (show i < B.length by omega))).1
    rw [Nat.zero_add] at this
    rw [this]; rfl
  exact kn_inj hnd i j hi hj (h.boxinj _ _ (hs i hi) (hs j hj) e)
theorem Rel.lend (h : Rel F σ γ a w) {ks : List Nat} {B : List BX} (hnd : ks.Nodup) (hl : B.length = ks.length) (hB : RetB (kn ks) σ 0 B) :
    Rel F (boxesSt [] (nm (bn γ ks)) B (lendE σ ks γ a w)) (lendG γ ks) a w := by
  have hinj := lend_inj h hnd hl hB
  have hle := lend_le h hinj hl hB
  have hinjN : Inj (nm (bn γ ks)) (0 + B.length) := fun i j hi hj e => hinj i j (by omega) (by omega) (by unfold nm at e; omega)
  have hs : ∀ i, i < ks.length → (look σ.box (kn ks i)).isSome := fun i hi => by
    have := (hB.at (List.getElem?_eq_getElem (show i < B.length by omega))).1
    rw [Nat.zero_add] at this
    rw [this]; rfl
  have hgb : ∀ i, i < ks.length → (lendG γ ks).bx (nm (bn γ ks) i) = γ.bx (kn ks i) := fun i hi => by
    show bn γ ks (un γ ks (nm (bn γ ks) i)) = _
    rw [un_at hinj hi]; rfl
  have hgr : ∀ i o, i < ks.length → (lendG γ ks).rw (.b (nm (bn γ ks) i) o) = γ.rw (.b (kn ks i) o) := fun i o hi => by
    show γ.rw (.b (kn ks (un γ ks (nm (bn γ ks) i))) o) = _
    rw [un_at hinj hi]
  have hown : ∀ L e, lookL (nOwn (nm (bn γ ks)) 0 B) L = some e → ∃ i o, i < ks.length ∧ L = .b (nm (bn γ ks) i) o ∧ lookL σ.own (.b (kn ks i) o) = some e := fun L e hL => by
    obtain ⟨i, b, o, hi, rfl, ho⟩ := nOwn_inv hL
    have := (hB.at hi).2
    rw [Nat.zero_add] at this ⊢
    exact ⟨i, o, by rw [← hl]; exact (List.getElem?_eq_some_iff.1 hi).1, rfl, this.at ho⟩
  have hsome : ∀ L, (lookL (nOwn (nm (bn γ ks)) 0 B) L).isSome → ∃ i o, i < ks.length ∧ L = .b (nm (bn γ ks) i) o ∧ (lookL σ.own (.b (kn ks i) o)).isSome := fun L hL => by
    obtain ⟨e, he⟩ := Option.isSome_iff_exists.1 hL
    obtain ⟨i, o, h0, h1, h2⟩ := hown L e he
    exact ⟨i, o, h0, h1, by rw [h2]; rfl⟩
  have hboxk : ∀ j, (look (nBoxes (nm (bn γ ks)) 0 B) j).isSome → ∃ i, i < ks.length ∧ j = nm (bn γ ks) i := fun j hj => by
    obtain ⟨cs, hcs⟩ := Option.isSome_iff_exists.1 hj
    obtain ⟨i, b, hi, rfl, _⟩ := nBoxes_inv hcs
    exact ⟨i, by rw [← hl]; exact (List.getElem?_eq_some_iff.1 hi).1, by rw [Nat.zero_add]⟩
  have hav : ∀ i o, i < ks.length → (boxesSt [] (nm (bn γ ks)) B (lendE σ ks γ a w)).avAt (.b (nm (bn γ ks) i) o) = σ.avAt (.b (kn ks i) o) := fun i o hi => by
    have hi' : B[i]? = some B[i] := List.getElem?_eq_getElem (show i < B.length by omega)
    have h1 := nBoxes_at (μ := nm (bn γ ks)) (i := 0) (j := i) hinjN hi'
    have h2 := (hB.at hi').1
    rw [Nat.zero_add] at h1 h2
    show ((look (nBoxes (nm (bn γ ks)) 0 B) (nm (bn γ ks) i)).bind (·[o]?)).map PV.av = ((look σ.box (kn ks i)).bind (·[o]?)).map PV.av
    rw [h1, h2]
  refine ⟨h.defers, h.size, h.below, h.r0, fun t x hx => (by cases hx), fun j cs1 hj => ?_, fun j j' hj hj' he => ?_, fun L e sz hL => ?_, fun L L' g hL hL' hg hg' => ?_, fun L j g hL hj hg => ?_, ⟨h.exth, fun _ _ _ _ => rfl, fun _ _ _ _ _ _ => rfl⟩, fun b hb => ?_, h.small, fun j hj _ => ?_, h.laid, ⟨σ.ext.rmono hle h.extr, fun t x hx => ((h.slots t x hx).1).mono hle (fun _ _ => rfl), fun j cs1 hj hk1 => ?_⟩⟩
  · obtain ⟨i, b, hi, rfl, rfl⟩ := nBoxes_inv hj
    have hil : i < ks.length := by rw [← hl]; exact (List.getElem?_eq_some_iff.1 hi).1
    have hbx := (hB.at hi).1
    rw [Nat.zero_add] at hbx ⊢
    obtain ⟨us, ty, h1, h2, h3⟩ := h.boxes _ _ hbx
    exact ⟨us, ty, by rw [hgb i hil]; exact h1, by rw [hgb i hil]; exact h2, h3.mono hle⟩
  · obtain ⟨i, hi, rfl⟩ := hboxk j hj
    obtain ⟨i', hi', rfl⟩ := hboxk j' hj'
    rw [hgb i hi, hgb i' hi'] at he
    have := kn_inj hnd i i' hi hi' (h.boxinj _ _ (hs i hi) (hs i' hi') he)
    rw [this]
  · obtain ⟨i, o, hi, rfl, h1⟩ := hown L (e, sz) hL
    obtain ⟨rows, v, h2, h3, h4⟩ := h.owns _ e sz h1
    refine ⟨rows, v, (hav i o hi).trans h2, ?_, by rw [hgr i o hi]; exact h4⟩
    show w.cell? ⟨(lendG γ ks).bx (nm (bn γ ks) i), o, none⟩ = some v
    rw [hgb i hi]
    exact h3
  · obtain ⟨i, o, hi, rfl, h1⟩ := hsome L hL
    obtain ⟨i', o', hi', rfl, h2⟩ := hsome L' hL'
    rw [hgr i o hi] at hg
    rw [hgr i' o' hi'] at hg'
    have := h.rowinj _ _ g h1 h2 hg hg'
    injection this with e1 e2
    have := kn_inj hnd i i' hi hi' e1
    subst this; subst e2; rfl
  · obtain ⟨i, o, hi, rfl, h1⟩ := hsome L hL
    obtain ⟨i', hi', rfl⟩ := hboxk j hj
    rw [hgr i o hi] at hg
    rw [hgb i' hi']
    exact h.rowbox _ _ g h1 (hs i' hi') hg
  · have hx : (σ.ext.foot b ∨ σ.ext.froz b) ∨ (∃ j cs, j ∉ ks ∧ look σ.box j = some cs ∧ b = γ.bx j) ∨ ∃ L e, lookL σ.own L = some e ∧ atK ks L = false ∧ γ.rw L = some b := by
      rcases hb with (hb | hb) | (hb | hb)
      · exact .inl (.inl hb)
      · exact .inr (.inl hb)
      · exact .inl (.inr hb)
      · exact .inr (.inr hb)
    rcases hx with hx | ⟨j, cs1, hj, hk1, rfl⟩ | ⟨L, e, h1, h2, h3⟩
    · obtain ⟨g1, g2, g3, g4⟩ := h.extf b hx
      refine ⟨g1, g2, fun j hj => ?_, fun L hL => ?_⟩
      · obtain ⟨i, hi, rfl⟩ := hboxk j hj
        rw [hgb i hi]; exact g3 _ (hs i hi)
      · obtain ⟨i, o, hi, rfl, h1⟩ := hsome L hL
        rw [hgr i o hi]; exact g4 _ h1
    · have hjs : (look σ.box j).isSome := by rw [hk1]; rfl
      obtain ⟨g1, g2⟩ := h.box_lt hjs
      refine ⟨g2, g1, fun j' hj' e => ?_, fun L hL e => ?_⟩
      · obtain ⟨i, hi, rfl⟩ := hboxk j' hj'
        rw [hgb i hi] at e
        exact hj (by rw [← h.boxinj _ _ (hs i hi) hjs e]; exact kn_mem hi)
      · obtain ⟨i, o, hi, rfl, h1⟩ := hsome L hL
        rw [hgr i o hi] at e
        exact h.rowbox _ j (γ.bx j) h1 hjs e rfl
    · have hLs : (lookL σ.own L).isSome := by rw [h1]; rfl
      obtain ⟨g1, g2⟩ := h.row_lt hLs h3
      refine ⟨g2, g1, fun j' hj' e => ?_, fun M hM e => ?_⟩
      · obtain ⟨i, hi, rfl⟩ := hboxk j' hj'
        rw [hgb i hi] at e
        exact h.rowbox L _ b hLs (hs i hi) h3 e.symm
      · obtain ⟨i, o, hi, rfl, h4⟩ := hsome M hM
        rw [hgr i o hi] at e
        have := h.rowinj L _ b hLs h4 h3 e
        subst this
        rw [atK_kn hi] at h2; cases h2
  · obtain ⟨i, hi, rfl⟩ := hboxk j hj
    rw [hgb i hi]
    show γ.bx (kn ks i) = nm (bn γ ks) i - 1000000
    unfold nm bn
    omega
  · obtain ⟨us, ty, h1, _, h3⟩ := h.boxes j cs1 hk1
    exact ⟨us, ty, h1, h3.mono hle⟩
section
variable {w' : World} {γf : Gh} {ks : List Nat} {B B' : List BX}
end
theorem reps_get {R : Reader} {bx : Nat → Nat} : ∀ {xs : List AV} {us : List Value}, Reps R σ bx xs us → us.length = xs.length ∧ ∀ (i : Nat) (x : AV), xs[i]? = some x → ∃ u, us[i]? = some u ∧ RepA R bx x u
  | [], us, h => by cases h; exact ⟨rfl, fun i x hx => by simp at hx⟩
  | x :: xs, us, h => by
    cases h with
    | cons h1 _ h3 =>
      obtain ⟨h4, h5⟩ := reps_get h3
      refine ⟨by simp [h4], fun i y hy => ?_⟩
      cases i with
      | zero => simp at hy; subst hy; exact ⟨_, rfl, h1⟩
      | succ i => simpa using h5 i y (by simpa using hy)
end
end Av
end Go.Proofs.YtcloigoajohppaaGreatDoor
/- A function that has a piece of what its caller holds beside its boxes (a map, a builder) for its own while it runs. Generic. -/
namespace Go.Proofs.YtcloigoajohppaaGreatDoor
open Go.RowKit
namespace Av

def extSt (sl : List (Nat × AV)) (E : Ext) : St := ⟨sl, [], [], E⟩
structure FnX {ι : Type} (P : Program) (C : World → Prop) (f : FuncId) (args : List AV) (X : Ext) (res : AV) (X' : ι → Ext) : Prop where
  enters : Enters P f
  calls : ∀ (F : Fr) (E : Ext) (γ : Gh) (a : Act) (w : World) (us : List Value), (∀ w0, E.laid w0 → C w0) → Rel F (extSt [] (E.and X)) γ a w → RepAL (rdr F.R0 F.w0.heap.size (extSt [] (E.and X)) γ w) args us →
    Calls P f us.toArray w fun e w' => ∃ u γ' i, e = .returned u ∧ Rel F (extSt [] (E.and (X' i))) γ' a w' ∧ res.refs = [] ∧ RepA (rdr F.R0 F.w0.heap.size (extSt [] (E.and (X' i))) γ' w') (fun _ => 0) res u
def RetX {ι : Type} (P : Program) (rs : Array ResultVar) (σ : St) (res : AV) (E : ι → Ext) : Prop :=
  (retAll P σ rs.toList fun cs => res = match cs with | [c] => c.av | cs => .tup cs) ∧ ∃ i, σ.ext = E i
section
variable {P : Program}
theorem fn_okX {ι : Type} {C : World → Prop} {f : FuncId} {fn : Func} {c : Code} {args : List AV} {X : Ext} {X' : ι → Ext} {res : AV} (hf : P.funcs[f]? = some fn) (hname : (fn.name == "runtime.NumGoroutine") = false) (hb : fn.body = some c) (hn : args.length ≤ fn.ntmps ∧ fn.ntmps ≤ 1000000)
    (h : ∀ (F : Fr) (E : Ext), F.n = fn.ntmps → (∀ w0, E.laid w0 → C w0) → AWp P F c (fun x σ => (match x with | .exit _ => False | _ => True) ∧ RetX P fn.results σ res (fun i => E.and (X' i))) (extSt (args.zipIdx.map fun x => (x.2, x.1)) (E.and X))) : FnX P C f args X res X' := by
  refine ⟨⟨fn, c, hf, hname, hb⟩, fun F0 E γ a0 w us hC hr0 hus => calls_of_wp hf hb ?_⟩
  have hlen := hus.length
  have hrel : Rel { F0 with n := fn.ntmps } (extSt (args.zipIdx.map fun x => (x.2, x.1)) (E.and X)) γ { tmps := us.toArray ++ Array.replicate (fn.ntmps - us.toArray.size) undef, defers := [] } w := by
    refine Rel.reAct (sl := []) (μ := fun _ => 0) (B := []) hr0 rfl (by simp; omega) hn.2 fun t x hx => ?_
    have hx' : args[t]? = some x := by
      rw [look_start] at hx
      simpa using hx
    obtain ⟨u, h1, h2, h3⟩ := hus.get hx'
    have ht : t < us.length := (List.getElem?_eq_some_iff.1 h1).1
    refine ⟨?_, fun k hk => by rw [h3] at hk; cases hk⟩
    have hv : (us.toArray ++ Array.replicate (fn.ntmps - us.toArray.size) undef).getD t undef = u := by
      rw [Array.getD_eq_getD_getElem?, Array.getElem?_append_left (by simpa using ht)]
      simp [h1]
    rw [hv]
    exact h2.free h3
  refine wp_mono (h _ E rfl hC γ _ w hrel) ?_
  rintro e a' w' ⟨x, σ', γ', rfl, ⟨hx, hret, i, hext⟩, hr'⟩
  have hsub : σ'.Sub (extSt [] (E.and (X' i))) := ⟨fun t x hx => (by cases hx), fun k cs1 hk => (by cases hk), fun L e hL => (by cases hL), fun t x hx => (by cases hx), hext.symm⟩
  have hr2 := hr'.sub hsub
  have hle : ∀ p v, rdr F0.R0 F0.w0.heap.size σ' γ' w' p = some v → rdr F0.R0 F0.w0.heap.size (extSt [] (E.and (X' i))) γ' w' p = some v := by
    refine rdr_le fun p v hB hm hc => ⟨fun hm' => ?_, hc⟩
    rcases hm' with ⟨j, cs1, hj, hp⟩ | ⟨L, e, sz, rows, h1, h2, h3, h4⟩ | hx
    · cases hj
    · cases h1
    · exact hm (.inr (.inr (by rw [hext]; exact hx)))
  obtain ⟨cvs, vs, h1, h2, h3⟩ := retAll_ok hr' hret
  have hrun : (results fn a'.tmps).run P w' = .ok (if h : vs.toArray.size = 1 then vs.toArray[0] else .tuple vs.toArray) w' := by
    rw [results_eq, Array.mapM_eq_mapM_toList, Sem.run_bind, Sem.run_map, h3]
    rfl
  have hback : Rel F0 (extSt [] (E.and (X' i))) γ' a0 w' := by
    have := Rel.reAct (n := F0.n) (sl := []) (sl' := []) (μ := fun _ => 0) (B := []) (a' := a0) hr2 hr0.defers hr0.size hr0.small (fun t x hx => by cases hx)
    exact this
  have hres : ∀ v, res.refs = [] ∧ RepA (rdr F0.R0 F0.w0.heap.size (extSt [] (E.and (X' i))) γ' w') (fun _ => 0) res v → (results fn a'.tmps).run P w' = .ok v w' → bodyPost P fn (fun e w' => ∃ u γ' i, e = .returned u ∧ Rel F0 (extSt [] (E.and (X' i))) γ' a0 w' ∧ res.refs = [] ∧ RepA (rdr F0.R0 F0.w0.heap.size (extSt [] (E.and (X' i))) γ' w') (fun _ => 0) res u) x.exit_ a' w' := fun v hv hrun => by
    cases x with
    | normal => exact ⟨hr'.defers, v, hrun, v, γ', i, rfl, hback, hv.1, hv.2⟩
    | exit id => exact hx.elim
    | ret => exact ⟨hr'.defers, v, hrun, v, γ', i, rfl, hback, hv.1, hv.2⟩
  refine hres _ ?_ hrun
  have hmono : ∀ {c : CV} {u : Value}, RepC (rdr F0.R0 F0.w0.heap.size σ' γ' w') c u → RepA (rdr F0.R0 F0.w0.heap.size (extSt [] (E.and (X' i))) γ' w') (fun _ => 0) c.av u := fun hc => (hc.mono hle).av
  subst h1
  cases h2 with
  | nil => exact ⟨rfl, [], by simp, .nil⟩
  | cons hc ht =>
    cases ht with
    | nil =>
      refine ⟨?_, by simpa using hmono hc⟩
      rename_i c _
      cases c with
      | c p => cases p <;> rfl
      | g xs => rfl
    | cons hc' ht' =>
      exact ⟨rfl, _, by simp, .cons (hc.mono hle) (.cons (hc'.mono hle) (ht'.mono hle))⟩
theorem fn_okXn {ι : Type} {C : World → Prop} {f : FuncId} {fn : Func} {c : Code} {args : List AV} {X : Ext} {X' : ι → Ext} {res : AV} {N : Nat} {rs : Array ResultVar} (hf : P.funcs[f]? = some fn) (hN : fn.ntmps = N) (hR : fn.results = rs) (hname : (fn.name == "runtime.NumGoroutine") = false) (hb : fn.body = some c) (hn : args.length ≤ N ∧ N ≤ 1000000)
    (h : ∀ (F : Fr) (E : Ext), F.n = N → (∀ w0, E.laid w0 → C w0) → AWp P F c (fun x σ => (match x with | .exit _ => False | _ => True) ∧ RetX P rs σ res (fun i => E.and (X' i))) (extSt (args.zipIdx.map fun x => (x.2, x.1)) (E.and X))) : FnX P C f args X res X' := by
  subst hN
  subst hR
  exact fn_okX hf hname hb hn h
end
section
variable {P : Program} {F : Fr} {σ : St} {γ : Gh} {a : Act} {w : World} {A X X' : Ext}
def lendA (A : Ext) (σ : St) (γ : Gh) (a : Act) (w : World) : Ext := lendE { σ with ext := A } [] γ a w
theorem Rel.lendX (h : Rel F σ γ a w) (hE : σ.ext = A.and X) : Rel F (extSt [] ((lendA A σ γ a w).and X)) (lendG γ []) a w := by
  have h0 : Rel F (extSt [] (lendE σ [] γ a w)) (lendG γ []) a w := h.lend (B := []) (List.nodup_nil) rfl trivial
  have hx := h.exth
  rw [hE] at hx
  obtain ⟨h1, h2, h3⟩ := hx
  have hall : ∀ b, X.foot b ∨ X.froz b → σ.ext.foot b ∨ σ.ext.froz b := fun b hb => by
    rw [hE]; exact hb.elim (fun h => .inl (.inr h)) (fun h => .inr (.inr h))
  have ht : Turn (lendE σ [] γ a w) w w ((lendA A σ γ a w).and X) := by
    refine Turn.same ⟨⟨h1, fun _ _ _ _ => rfl, fun _ _ _ _ _ _ => rfl⟩, h2, fun b ha hb => ?_⟩ (fun b hb => ?_) (fun b hb => ?_) (fun w0 hl => ?_) (fun R hr => ?_) (fun p hp => ?_)
    · rcases ha with (ha | ⟨j, cs, _, hj, rfl⟩) | (ha | ⟨L, e, hL, _, hg⟩)
      · exact h3 b (.inl ha) hb
      · exact (h.extf _ (hall _ hb)).2.2.1 j (by rw [show look σ.box j = some cs from hj]; rfl) rfl
      · exact h3 b (.inr ha) hb
      · exact (h.extf _ (hall _ hb)).2.2.2 L (by rw [show lookL σ.own L = some e from hL]; rfl) hg
    · show (σ.ext.foot b ∨ _)
      rcases hb with (hb | hb) | hb
      · exact .inl (by rw [hE]; exact .inl hb)
      · exact .inr hb
      · exact .inl (by rw [hE]; exact .inr hb)
    · right
      show (σ.ext.froz b ∨ _)
      rcases hb with (hb | hb) | hb
      · exact .inl (by rw [hE]; exact .inl hb)
      · exact .inr hb
      · exact .inl (by rw [hE]; exact .inr hb)
    · have hl : σ.ext.laid w0 := hl
      rw [hE] at hl
      exact ⟨hl.1, hl.2⟩
    · obtain ⟨r1, r2, r3⟩ := hr
      rw [hE] at r1
      exact ⟨⟨r1.1, r2, r3⟩, r1.2⟩
    · left
      show (σ.ext.veil p ∨ _)
      rcases hp with (hp | hp) | hp
      · exact .inl (by rw [hE]; exact .inl hp)
      · refine .inr ?_
        obtain ⟨L, e, sz, rows, q1, q2, q3, q4, q5⟩ := hp
        exact ⟨L, e, sz, rows, q1, q2, (by cases L <;> exact q3), q4, q5⟩
      · exact .inl (by rw [hE]; exact .inr hp)
  exact h0.turn ht
theorem lendX_le (h : Rel F σ γ a w) (hE : σ.ext = A.and X) : ∀ p v, rdr F.R0 F.w0.heap.size σ γ w p = some v → rdr F.R0 F.w0.heap.size (extSt [] ((lendA A σ γ a w).and X)) (lendG γ []) w p = some v := by
  refine rdr_le fun p v hb hm hc => ⟨fun hm' => hm ?_, hc⟩
  rcases hm' with ⟨j, cs1, hj, hp⟩ | ⟨L, e, sz, rows, h1, h2, h3, h4⟩ | (hx | hx)
  · cases hj
  · cases h1
  · rcases hx with (hx | ⟨j, cs1, _, hj, hp⟩) | hx
    · exact .inr (.inr (.inl (by rw [hE]; exact .inl hx)))
    · exact .inl ⟨j, cs1, hj, hp⟩
    · exact .inr (.inr (.inl (by rw [hE]; exact .inr hx)))
  · rcases hx with (hx | ⟨L, e, sz, rows, h1, _, h2, h3, h4⟩) | hx
    · exact .inr (.inr (.inr (by rw [hE]; exact .inl hx)))
    · exact .inr (.inl ⟨L, e, sz, rows, h1, (by cases L <;> exact h2), h3, h4⟩)
    · exact .inr (.inr (.inr (by rw [hE]; exact .inr hx)))
section
variable {w' : World} {γf : Gh}
theorem backX_le : ∀ p v, rdr F.R0 F.w0.heap.size (extSt [] ((lendA A σ γ a w).and X')) γf w' p = some v → rdr F.R0 F.w0.heap.size { σ with ext := A.and X' } γ w' p = some v := by
  refine rdr_le fun p v hb hm hc => ⟨fun hm' => hm ?_, hc⟩
  rcases hm' with ⟨j, cs1, hj, hp⟩ | ⟨L, e, sz, rows, h1, h2, h3, h4⟩ | (hx | hx)
  · exact .inr (.inr (.inl (.inl (.inr ⟨j, cs1, by simp, hj, hp⟩))))
  · exact .inr (.inr (.inr (.inl (.inr ⟨L, e, sz, rows, h1, by cases L <;> rfl, (by cases L <;> exact h2), h3, h4⟩))))
  · exact .inr (.inr (.inl (hx.elim (fun h => .inl (.inl h)) .inr)))
  · exact .inr (.inr (.inr (hx.elim (fun h => .inl (.inl h)) .inr)))
theorem Rel.backX (h : Rel F σ γ a w) (hE : σ.ext = A.and X) (hf : Rel F (extSt [] ((lendA A σ γ a w).and X')) γf a w') : Rel F { σ with ext := A.and X' } γ a w' := by
  have hle := backX_le (F := F) (σ := σ) (γ := γ) (a := a) (w := w) (A := A) (X' := X') (w' := w') (γf := γf)
  obtain ⟨⟨x1, x2, x3⟩, x4, x5⟩ := hf.exth
  obtain ⟨⟨y1, y2, y3⟩, y4⟩ := hf.extr
  have hat : ∀ L, atK [] L = false := fun L => by cases L <;> rfl
  refine ⟨h.defers, h.size, hf.below, h.r0, fun t x hx => ⟨(y2 t x hx).mono hle (fun _ _ => rfl), (h.slots t x hx).2⟩, fun j cs hj => ?_, h.boxinj, fun L e sz hL => ?_, h.rowinj, h.rowbox, ⟨x1, x4, fun b hb => x5 b (hb.elim (fun h => .inl (.inl h)) (fun h => .inr (.inl h)))⟩, fun b hb => ?_, h.small, h.dyn, hf.laid, ⟨A.rmono hle y1, X'.rmono hle y4⟩⟩
  · obtain ⟨us, ty, h1, h2⟩ := y3 j cs (by simp) hj
    exact ⟨us, ty, (x2 j cs (by simp) hj).trans h1, (h.box_lt (k := j) (by rw [show look σ.box j = some cs from hj]; rfl)).2, h2.mono hle⟩
  · obtain ⟨rows, v, h1, h2, h3⟩ := h.owns L e sz hL
    refine ⟨rows, v, by cases L <;> exact h1, ?_, h3.keep fun g hg => x3 L (e, sz) g hL (hat L) hg⟩
    cases L with
    | s t => exact h2
    | b j o =>
      have hj : ∃ cs1, look σ.box j = some cs1 := by
        cases hq : look σ.box j with
        | none => simp [St.avAt, hq] at h1
        | some c => exact ⟨c, rfl⟩
      obtain ⟨cs1, hj⟩ := hj
      exact (World.cell?_of_block (w := w) (a := ⟨γ.bx j, o, none⟩) (x2 j cs1 (by simp) hj)).trans h2
  · obtain ⟨g1, g2, _, _⟩ := hf.extf b (hb.elim (fun h => .inl (h.elim (fun h => .inl (.inl h)) .inr)) (fun h => .inr (h.elim (fun h => .inl (.inl h)) .inr)))
    have hx : (A.foot b ∨ A.froz b) ∨ (X'.foot b ∨ X'.froz b) := by
      rcases hb with (hb | hb) | (hb | hb)
      · exact .inl (.inl hb)
      · exact .inr (.inl hb)
      · exact .inl (.inr hb)
      · exact .inr (.inr hb)
    rcases hx with hx | hx
    · have := h.extf b (by rw [hE]; exact hx.elim (fun h => .inl (.inl h)) (fun h => .inr (.inl h)))
      exact ⟨g1, g2, this.2.2.1, this.2.2.2⟩
    · refine ⟨g1, g2, fun j hj e => ?_, fun L hL e => ?_⟩
      · obtain ⟨cs, hcs⟩ := Option.isSome_iff_exists.1 hj
        exact x5 b (.inl (.inr ⟨j, cs, by simp, hcs, e.symm⟩)) hx
      · obtain ⟨e', he'⟩ := Option.isSome_iff_exists.1 hL
        exact x5 b (.inr (.inr ⟨L, e', he', hat L, e⟩)) hx
end
theorem repAL_of {R : Reader} : ∀ {A : List AV} {us : List Value}, us.length = A.length → (∀ (i : Nat) (m : AV) (u : Value), A[i]? = some m → us[i]? = some u → m.refs = [] ∧ RepA R (fun _ => 0) m u) → RepAL R A us
  | [], [], _, _ => .nil
  | [], _ :: _, h, _ => by cases h
  | _ :: _, [], h, _ => by cases h
  | m :: A, u :: us, hl, h => .cons (h 0 m u rfl rfl).2 (h 0 m u rfl rfl).1 (repAL_of (by simpa using hl) fun i m' u' h1 h2 => h (i + 1) m' u' (by simpa using h1) (by simpa using h2))
theorem hand_callX {ι : Type} {X' : ι → Ext} {n : Nat} {o : Oper} {d : Nat} {K : St → Prop} {fid : FuncId} {args : Array Operand} {ats : Array TypeId} {avs : List AV} {C : World → Prop} {res : AV} (hc : FnX P C fid avs X res X') (A : Ext) (hE : σ.ext = A.and X) (hC : ∀ w0, A.laid w0 → C w0)
    (ho : o.op = .call { callee := .value (.func fid), args := args, argTypes := ats }) (hd : o.dst = some d) (hdn : d < n) (hA : evos (look σ.slot) args.toList = some avs) (hp : (avs.all fun x => x.refs.isEmpty) = true)
    (h : ∀ i, K (({ σ with ext := A.and (X' i) } : St).put d res)) : Hand P n σ o K := by
  refine hand_call hd fun F γ a w hF hr => ?_
  have henter := hc.enters
  have hle := lendX_le hr hE
  have hev := evos_ok hr (g := look σ.slot) (fun _ _ _ hy => hy) hA
  obtain ⟨g1, g2⟩ := reps_get hev
  refine ⟨fid, args.map a.eval, ?_, ?_⟩
  · have hf : a.eval (.func fid) = .func (.func fid) #[] #[] := rfl
    simp [execOp, ho, resolve, hf, Deferred.ofValue, invoke, run_callFunc henter]
  · have hargs : args.map a.eval = (args.toList.map a.eval).toArray := by
      obtain ⟨l⟩ := args
      simp
    rw [hargs]
    refine (hc.calls F (lendA A σ γ a w) (lendG γ []) a w _ hC (hr.lendX hE) (repAL_of g1 fun i m u hm hu => ?_)).mono ?_
    · obtain ⟨u', h1, h2⟩ := g2 i m hm
      rw [hu] at h1
      cases h1
      have hx : m.refs = [] := by simpa using List.all_eq_true.1 hp m (List.mem_of_getElem? hm)
      exact ⟨hx, (RepA.mono (x := m) hle (fun _ _ => rfl) h2).free hx⟩
    · rintro e w1 ⟨u, γf, i, rfl, hf, hres, hrep⟩
      exact ⟨u, _, γ, rfl, h i, (hr.backX hE hf).put (by rw [hF]; exact hdn) ((hrep.free hres).mono backX_le (fun _ _ => rfl)) (fun i hi => by rw [hres] at hi; cases hi)⟩
end
end Av
end Go.Proofs.YtcloigoajohppaaGreatDoor
/- Regions with stores by hand. Generic. -/
namespace Go.Proofs.YtcloigoajohppaaGreatDoor
open Go.RowKit
namespace Av
section
variable {P : Program} {n d : Nat} {σ : St} {o : Oper} {K : St → Prop}
def sopJ (P : Program) (n : Nat) (st : List Nat) (σ : St) (o : Oper) (K : St → Prop) : Prop :=
  match o.op, o.dst with
  | .store _ _ _, none => Hand P n σ o K
  | .call { callee := .builtin .append, .. }, some d => if st.contains (d + 1000000) = true then Hand P n σ o K else sop P n st σ o K
  | _, _ => sop P n st σ o K
def sopsJ (P : Program) (n : Nat) (st : List Nat) (ops : Array Oper) : List Oper → St → (St → Prop) → Prop
  | [], σ, K => K σ
  | o :: l, σ, K => match guardB ops (look σ.slot) o with
    | some true => sopJ P n st σ o fun σ' => sopsJ P n st ops l σ' K
    | some false => ∃ d, o.dst = some d ∧ d < n ∧ sopsJ P n st ops l (σ.put d (.v undef)) K
    | none => False
theorem sopsJ_go {st : List Nat} {ops : Array Oper} {l : List Oper} {K : St → Prop} (h : match guardB ops (look σ.slot) o with
    | some true => sopJ P n st σ o fun σ' => sopsJ P n st ops l σ' K
    | some false => ∃ d, o.dst = some d ∧ d < n ∧ sopsJ P n st ops l (σ.put d (.v undef)) K
    | none => False) : sopsJ P n st ops (o :: l) σ K := h
theorem sopsJ_end {st : List Nat} {ops : Array Oper} {K : St → Prop} (h : K σ) : sopsJ P n st ops [] σ K := h
theorem sopJ_ok {F : Fr} {st : List Nat} {γ : Gh} {a : Act} {w : World} (h : Rel F σ γ a w) (hs : sopJ P F.n st σ o K) (Q : Exit → Act → World → Prop) : o.wp P a w (fun a' w' => ∃ σ' γ', K σ' ∧ Rel F σ' γ' a' w') Q := by
  unfold sopJ at hs
  split at hs
  · exact hs F γ a w rfl h Q
  · split at hs
    · exact hs F γ a w rfl h Q
    · exact sop_ok h hs Q
  · exact sop_ok h hs Q
theorem sopsJ_ok {F : Fr} {st : List Nat} {ops : Array Oper} {Q : Exit → Act → World → Prop} (hQ : ∀ σ γ a w, K σ → Rel F σ γ a w → Q .normal a w) : ∀ (l : List Oper) (σ : St) (γ : Gh) (a : Act) (w : World), Rel F σ γ a w → sopsJ P F.n st ops l σ K → wpList P ops Q l a w
  | [], σ, γ, a, w, h, hs => hQ σ γ a w hs h
  | o :: l, σ, γ, a, w, h, hs => by
    unfold sopsJ at hs
    unfold wpList
    split at hs
    · rename_i hg
      rw [guard_ok h (fun j want t y _ _ hy => hy) hg, if_pos rfl]
      refine .inl (Oper.wp_mono (fun a2 w2 hst => ?_) (sopJ_ok h hs Q))
      obtain ⟨σ', γ', h1, h2⟩ := hst
      exact sopsJ_ok hQ l σ' γ' a2 w2 h2 h1
    · rename_i hg
      obtain ⟨d, hd, hdn, hs⟩ := hs
      rw [guard_ok h (fun j want t y _ _ hy => hy) hg, if_neg (by simp), hd]
      exact sopsJ_ok hQ l _ γ _ w (h.put hdn (x := .v undef) (u := undef) rfl (fun k hk => by cases hk)) hs
    · cases hs
theorem awp_regionJ {F : Fr} {id : Nat} {l : List Oper} {Q : AX → St → Prop} (st : List Nat) (h : sopsJ P F.n st l.toArray l σ (Q .normal)) : AWp P F (Code.region id l.toArray false) Q σ := fun γ a w hr =>
  wp_region_lit (sopsJ_ok (fun σ' γ' a' w' hq hr' => ⟨.normal, σ', γ', rfl, hq, hr'⟩) l σ γ a w hr h)
end
end Av
end Go.Proofs.YtcloigoajohppaaGreatDoor
/- A call of a function whose contract asks something of the first world. Generic. -/
namespace Go.Proofs.YtcloigoajohppaaGreatDoor
open Go.RowKit
namespace Av
section
variable {P : Program}
theorem hand_fnL {C : World → Prop} {n d fid : Nat} {σ : St} {o : Oper} {K : St → Prop} {args : Array Operand} {ats : Array TypeId} {avs avs' : List AV} {res : FRes} (hst : ∀ {w w' : World}, Below w.heap.size w w' → C w → C w') (ho : o.op = .call { callee := .value (.func fid), args := args, argTypes := ats }) (hd : o.dst = some d) (hdn : d < n) (he : ∀ w0, σ.ext.laid w0 → C w0)
    (h3 : evos (look σ.slot) args.toList = some avs) (h4 : snaps (look σ.box) avs = some avs') (h5 : FnOKC P C fid avs' res) (h6 : (avs.all fun x => x.refs.isEmpty) = true) (h : K (σ.res d ⟨res.av, none, res.own⟩)) : Hand P n σ o K := by
  refine hand_call hd fun F γ a w hF hr => ?_
  have hC0 : C F.w0 := he _ hr.laid
  have hC : C w := hst hr.below hC0
  obtain ⟨henter, hcall⟩ := h5
  have gA := evos_ok hr (fun t y _ hy => hy) h3
  obtain ⟨_, g7⟩ := snaps_ok hr (fun _ _ h => h) gA h4
  have hf : a.eval (.func fid) = .func (.func fid) #[] #[] := rfl
  refine ⟨fid, args.map a.eval, ?_, ?_⟩
  · simp [execOp, ho, resolve, hf, Deferred.ofValue, invoke, run_callFunc henter]
  · have hargs : args.map a.eval = (args.toList.map a.eval).toArray := by
      obtain ⟨l⟩ := args
      simp
    rw [hargs]
    refine (hcall w _ hC (fun p v hp => hr.cell hp) _ (g7 h6)).mono ?_
    rintro e w1 ⟨u, rfl, hb, hres⟩
    obtain ⟨γ', _, hrel⟩ := hr.call hb (by rw [hF]; exact hdn) hres
    exact ⟨u, _, γ', rfl, h, hrel⟩
end
end Av
end Go.Proofs.YtcloigoajohppaaGreatDoor
namespace Go.Proofs.YtcloigoajohppaaGreatDoor
open Go.RowKit
namespace Av
section
variable {P : Program} {n d : Nat} {σ : St} {o : Oper} {bx0 : Nat → Option (List PV)}
theorem evo_ops {σ1 : St} {l : List Operand} (h1 : ∀ t y, Operand.tmp t ∈ l → look σ.slot t = some y → look σ1.slot t = some y) {x : Operand} {v : AV} (hm : x ∈ l) (hx : evo (look σ.slot) x = some v) : evo (look σ1.slot) x = some v := by
  cases x with
  | tmp t => exact h1 t v hm hx
  | _ => exact hx
theorem evos_ops {σ1 : St} : ∀ {l : List Operand} {vs : List AV}, (∀ t y, Operand.tmp t ∈ l → look σ.slot t = some y → look σ1.slot t = some y) → evos (look σ.slot) l = some vs → evos (look σ1.slot) l = some vs
  | [], _, _, h => h
  | x :: l, vs, h1, h => by
    unfold evos at h ⊢
    cases hx : evo (look σ.slot) x with
    | none => simp [hx] at h
    | some v =>
      cases hl : evos (look σ.slot) l with
      | none => simp [hx, hl] at h
      | some vs' =>
        rw [evo_ops (l := x :: l) h1 (List.mem_cons_self ..) hx, evos_ops (fun t y hm hy => h1 t y (List.mem_cons_of_mem _ hm) hy) hl]
        simpa [hx, hl] using h
theorem handq_rawField {T : TypeId} {x : Operand} {i : Nat} {fs : Array Field} {f : Field} {m b off : Nat} (ho : o.op = .fieldAddr T x i) (hd : o.dst = some d) (hdn : d < n) (hu : P.underlying T = some (.struct fs)) (hf : fs[i]? = some f) (hn : (P.info? f.type).map (·.size) = some (m + 1))
    (hx : evo (look σ.slot) x = some (.v (.pointer (some ⟨b, off, none⟩)))) : HandQ P n bx0 σ o d ⟨.v (.pointer (some ⟨b, off + f.offset, none⟩)), none, none⟩ := by
  intro F σ1 γ a w hF hr hops hb hext Q
  have e := eval_raw hr (evo_ops hops (x := x) (by rw [ho]; simp [Op.operands]) hx)
  refine pure_ok hr hd (by rw [hF]; exact hdn) (u := .pointer (some ⟨b, off + f.offset, none⟩)) ?_ rfl (fun j hj => by cases hj)
  simp [execOp, ho, e, run_field_at (P := P) w T fs f i m b off hu hf hn]
theorem handq_fnL {C : World → Prop} {fid : Nat} {args : Array Operand} {ats : Array TypeId} {avs : List AV} {v : Value} (hst : ∀ {w w' : World}, Below w.heap.size w w' → C w → C w') (ho : o.op = .call { callee := .value (.func fid), args := args, argTypes := ats }) (hd : o.dst = some d) (hdn : d < n) (he : ∀ w0, σ.ext.laid w0 → C w0)
    (h3 : evos (look σ.slot) args.toList = some avs) (h6 : (avs.all fun x => x.refs.isEmpty) = true) (h4 : ∀ bx, snaps bx avs = some avs) (h5 : FnOKC P C fid avs ⟨.v v, none⟩) : HandQ P n bx0 σ o d ⟨.v v, none, none⟩ := by
  intro F σ1 γ a w hF hr hops hb hext Q
  have hC0 : C F.w0 := he _ (by rw [← hext]; exact hr.laid)
  have hC : C w := hst hr.below hC0
  obtain ⟨henter, hcall⟩ := h5
  have hmem : ∀ t, Operand.tmp t ∈ args.toList → Operand.tmp t ∈ o.op.operands.toList := fun t hm => by
    have hm2 : Operand.tmp t ∈ args := by simpa using hm
    rw [ho]
    simp [Op.operands, Call.operands, hm2]
  have h3' : evos (look σ1.slot) args.toList = some avs := evos_ops (fun t y hm hy => hops t y (hmem t hm) hy) h3
  have gA := evos_ok hr (fun t y _ hy => hy) h3'
  obtain ⟨_, g7⟩ := snaps_ok hr (fun _ _ h => h) gA (h4 _)
  have hf : a.eval (.func fid) = .func (.func fid) #[] #[] := rfl
  have hrun : (execOp a.eval o).run P w = .ok (.enter fid (args.map a.eval)) w := by
    simp [execOp, ho, resolve, hf, Deferred.ofValue, invoke, run_callFunc henter]
  unfold Oper.wp
  rw [hrun, Oper.upon_enter, hd]
  have hargs : args.map a.eval = (args.toList.map a.eval).toArray := by
    obtain ⟨l⟩ := args
    simp
  rw [hargs]
  refine (hcall w _ hC (fun p v hp => hr.cell hp) _ (g7 h6)).mono ?_
  rintro e w1 ⟨u, rfl, hbl, hres⟩
  obtain ⟨γ', hbx, hrel⟩ := hr.call hbl (by rw [hF]; exact hdn) hres
  refine ⟨γ', u, rfl, hbl, fun k _ => hbx k, hrel, fun g S _ hs => ?_⟩
  unfold src at hs
  rw [ho] at hs
  cases hs
end
end Av
end Go.Proofs.YtcloigoajohppaaGreatDoor
/- Operations by hand that only yield a value; pointers of a lent box as plain values. Generic. -/
namespace Go.Proofs.YtcloigoajohppaaGreatDoor
open Go.RowKit
namespace Av
section
variable {P : Program} {F : Fr} {σ : St} {γ : Gh} {a : Act} {w : World} {n d : Nat} {o : Oper} {K : St → Prop}
theorem hand_pure {v : Value} (hd : o.dst = some d) (hdn : d < n) (hrun : ∀ (F : Fr) (γ : Gh) (a : Act) (w : World), Rel F σ γ a w → (execOp a.eval o).run P w = .ok (.value v) w) (h : K (σ.put d (.v v))) : Hand P n σ o K :=
  hand_value hd hdn fun F γ a w _ hr => ⟨.v v, v, w, σ.ext, hrun F γ a w hr, Turn.same hr.exth (fun _ h => h) (fun _ h => .inr h), rfl, (fun k hk => by cases hk), h⟩
end
end Av
end Go.Proofs.YtcloigoajohppaaGreatDoor
/- A strings.Builder at the head of a block, as a piece of what the frame holds. Generic. -/
namespace Go.Proofs.YtcloigoajohppaaGreatDoor
open Go.RowKit
namespace Av

def selfV (st : Bool) (b : Nat) : Value := .pointer (if st then some ⟨b, 0, none⟩ else none)
def bldE (T u8 : TypeId) (b : Nat) (st : Bool) (rest bs : List Value) (V : Value) : Ext where
  foot y := y = b ∨ V.ownBlock = some y
  froz _ := False
  holds w := w.heap[b]? = some (.cells (selfV st b :: V :: rest).toArray T (0, 0)) ∧ w.ownsRow 0 u8 1 V bs.length bs ∧ V.ownBlock ≠ some b
  stable {w w'} h hw := by
    obtain ⟨h1, h2, h3⟩ := hw
    refine ⟨(h b (.inl (.inl rfl))).trans h1, ⟨h2.1, ?_⟩, h3⟩
    rcases h2.2 with h4 | ⟨g, cap, cur, h4, h5, h6⟩
    · exact .inl h4
    · refine .inr ⟨g, cap, cur, h4, h5, ?_, h6.2⟩
      exact (h g (.inl (.inr (by rw [h4]; rfl)))).trans h6.1
theorem fnX_of {ι : Type} {P : Program} {C : World → Prop} {f : FuncId} {vs : List Value} {X : Ext} {X' : ι → Ext} {res : AV} (he : Enters P f) (hres : res.refs = [])
    (h : ∀ w, (∀ b, X.all b → b < w.heap.size) → X.holds w → Calls P f vs.toArray w fun e w' => ∃ u i, e = .returned u ∧ Turn X w w' (X' i) ∧ ∀ R, RepA R (fun _ => 0) res u) : FnX P C f (vs.map AV.v) X res X' := by
  refine ⟨he, fun F E γ a w us _ hr hus => ?_⟩
  have hv : ∀ {vs us : List Value}, RepAL (rdr F.R0 F.w0.heap.size (extSt [] (E.and X)) γ w) (vs.map AV.v) us → us = vs := fun {vs} => by
    induction vs with
    | nil => intro us h; cases h; rfl
    | cons v vs ih =>
      intro us h
      cases h with
      | cons h1 _ h3 => rw [show _ = v from h1, ih h3]
  obtain rfl := hv hus
  have hx := hr.exth
  have hlt : ∀ b, (E.and X).foot b ∨ (E.and X).froz b → b < w.heap.size := fun b hb => (hr.extf b hb).2.1
  refine (h w (fun b hb => hlt b (hb.elim (fun h => .inl (.inr h)) (fun h => .inr (.inr h)))) hx.2.1).mono ?_
  rintro e w' ⟨u, i, rfl, ht, hu⟩
  exact ⟨u, γ, i, rfl, hr.turn (Turn.right (fun b hb => hlt b (hb.elim (fun h => .inl (.inl h)) (fun h => .inr (.inl h)))) hx ht), hres, hu _⟩
end Av
end Go.Proofs.YtcloigoajohppaaGreatDoor
/- What lies behind a builder at the head of a block: a field's place, a load, a store. Generic. -/
namespace Go.Proofs.YtcloigoajohppaaGreatDoor
open Go.RowKit
namespace Av

section
variable {P : Program} {n : Nat} {σ : St} {o : Oper} {d : Nat} {K : St → Prop}
theorem hand_rawField {T : TypeId} {x : Operand} {i : Nat} {fs : Array Field} {f : Field} {m b off : Nat} (ho : o.op = .fieldAddr T x i) (hd : o.dst = some d) (hdn : d < n) (hu : P.underlying T = some (.struct fs)) (hf : fs[i]? = some f) (hn : (P.info? f.type).map (·.size) = some (m + 1))
    (hx : evo (look σ.slot) x = some (.v (.pointer (some ⟨b, off, none⟩)))) (h : K (σ.put d (.v (.pointer (some ⟨b, off + f.offset, none⟩))))) : Hand P n σ o K := by
  refine hand_pure hd hdn (fun F γ a w hr => ?_) h
  have e := eval_raw hr hx
  simp [execOp, ho, e, run_field_at (P := P) w T fs f i m b off hu hf hn]
theorem hand_bldLoad {T u8 Tv : TypeId} {x : Operand} {b k : Nat} {st : Bool} {rest bs : List Value} {V v : Value} {A : Ext} {dd : TypeDesc} (ho : o.op = .load Tv x) (hd : o.dst = some d) (hdn : d < n) (hE : σ.ext = A.and (bldE T u8 b st rest bs V))
    (hx : evo (look σ.slot) x = some (.v (.pointer (some ⟨b, k + 2, none⟩)))) (hv : rest[k]? = some v) (hu : P.underlying Tv = some dd) (hdd : dd.isRow = false) (h : K (σ.put d (.v v))) : Hand P n σ o K := by
  refine hand_pure hd hdn (fun F γ a w hr => ?_) h
  have e := eval_raw hr hx
  have hext := hr.exth
  rw [hE] at hext
  have hb := hext.2.1.1
  have hc : w.cell? ⟨b, k + 2, none⟩ = some v := by
    rw [cell_of_row w _ _ _ T (0, 0) hb]
    simp [hv]
  simp [execOp, ho, e, run_load_one (P := P) w b (k + 2) Tv dd v hc hu hdd]
theorem hand_bldStore {T u8 Tv : TypeId} {x y : Operand} {b k : Nat} {st : Bool} {rest bs : List Value} {V u : Value} {A : Ext} (ho : o.op = .store Tv x y) (hd : o.dst = none) (hE : σ.ext = A.and (bldE T u8 b st rest bs V))
    (hx : evo (look σ.slot) x = some (.v (.pointer (some ⟨b, k + 2, none⟩)))) (hy : evo (look σ.slot) y = some (.v u)) (hk : k < rest.length) (hc1 : u.cells = #[u]) (ho1 : u.oneCell' = true) (hn : (P.info? Tv).map (·.size) = some 1)
    (h : K { σ with ext := A.and (bldE T u8 b st (rest.set k u) bs V) }) : Hand P n σ o K := by
  refine hand_skip hd fun F γ a w hF hr => ?_
  have e1 := eval_raw hr hx
  have e2 := eval_raw hr hy
  have hext := hr.exth
  rw [hE] at hext
  obtain ⟨hA, ⟨hb, hown, hne⟩, hdis⟩ := hext
  obtain ⟨j, hj, hs⟩ := info_some hn
  have hst := run_storeCells_cells (P := P) b (k + 2) [u] 0 w (fun j hj => by
      rw [cell_of_row w _ _ _ T (0, 0) hb]
      simp at hj
      subst hj
      simp [hk]) (fun j hj => by
      unfold World.frozen?
      rw [show (⟨b, k + 2 + 0 + j, none⟩ : Addr).block = b from rfl, hb]
      simp) (by simpa using ho1)
  simp only [Nat.add_zero] at hst
  have hw : w.setCells b (k + 2) [u] = w.setCell ⟨b, k + 2, none⟩ u := rfl
  rw [hw] at hst
  have hg := Lib.grownBy_setCell w b (k + 2) u
  refine ⟨w.setCell ⟨b, k + 2, none⟩ u, _, ?_, ?_, h⟩
  · simp [execOp, ho, e1, e2, Instr.storeAt, Instr.sureAddr, storeVar, sizeOf, typeInfo, hj, hs, hc1, hst]
  · rw [hE]
    refine Turn.right (fun b' hb' => (hr.extf b' (by rw [hE]; exact hb'.elim (fun h => .inl (.inl h)) (fun h => .inr (.inl h)))).2.1) ⟨hA, ⟨hb, hown, hne⟩, hdis⟩ ?_
    refine Turn.grown hg (.inl rfl) ⟨?_, hown.kept hg (Or.inr hne), hne⟩ (fun _ h => h) (fun _ h => .inr h)
    have hlen : k + 2 < (selfV st b :: V :: rest).length := by simp; omega
    simp [World.setCell, Array.getElem?_modify, hb]
end
end Av
end Go.Proofs.YtcloigoajohppaaGreatDoor
/- The library's contracts that this claim uses, laid for its program: written by a tool of the kit. -/
namespace Go.Proofs.YtcloigoajohppaaGreatDoor
open Go.Shelf
def Tryz.laysM171_ren : Go.Shelf.Ren := ⟨fun | 171 => 58 | 243 => 104 | 246 => 129 | 283 => 143 | 284 => 144 | 285 => 145 | 286 => 146 | 129 => 155 | 317 => 154 | 318 => 156 | 319 => 157 | 320 => 158 | 337 => 161 | 338 => 162 | n => n, fun | 3 => 3 | 9 => 9 | 2 => 2 | 4 => 4 | 171 => 198 | 0 => 0 | 53 => 199 | 37 => 56 | 5 => 5 | 173 => 202 | 212 => 219 | 51 => 204 | 20 => 20 | 213 => 220 | 46 => 190 | 232 => 227 | 233 => 228 | n => n, fun | 17 => 5 | 18 => 6 | 19 => 7 | n => n⟩
theorem Tryz.laysM171 : Go.Proofs.LaysM.n171 Tryz.prog Tryz.laysM171_ren := {
  mixed := by kernel_rfl
  f129 := Tryz.func155.trans (congrArg some (by kernel_rfl))
  f171 := Tryz.func58.trans (congrArg some (by kernel_rfl))
  f243 := Tryz.func104.trans (congrArg some (by kernel_rfl))
  f246 := Tryz.func129.trans (congrArg some (by kernel_rfl))
  f283 := Tryz.func143.trans (congrArg some (by kernel_rfl))
  f284 := Tryz.func144.trans (congrArg some (by kernel_rfl))
  f285 := Tryz.func145.trans (congrArg some (by kernel_rfl))
  f286 := Tryz.func146.trans (congrArg some (by kernel_rfl))
  f317 := Tryz.func154.trans (congrArg some (by kernel_rfl))
  f318 := Tryz.func156.trans (congrArg some (by kernel_rfl))
  f319 := Tryz.func157.trans (congrArg some (by kernel_rfl))
  f320 := Tryz.func158.trans (congrArg some (by kernel_rfl))
  f337 := Tryz.func161.trans (congrArg some (by kernel_rfl))
  f338 := Tryz.func162.trans (congrArg some (by kernel_rfl))
  t0 := Tryz.underlying0
  a0 := Tryz.isAgg0
  z0 := Tryz.sizeOf0
  v0 := Tryz.zeroValue0
  t2 := Tryz.underlying2
  a2 := Tryz.isAgg2
  z2 := Tryz.sizeOf2
  v2 := Tryz.zeroValue2
  t3 := Tryz.underlying3
  a3 := Tryz.isAgg3
  z3 := Tryz.sizeOf3
  v3 := Tryz.zeroValue3
  t4 := Tryz.underlying4
  a4 := Tryz.isAgg4
  z4 := Tryz.sizeOf4
  v4 := Tryz.zeroValue4
  t5 := Tryz.underlying5
  a5 := Tryz.isAgg5
  z5 := Tryz.sizeOf5
  v5 := Tryz.zeroValue5
  t9 := Tryz.underlying9
  a9 := Tryz.isAgg9
  z9 := Tryz.sizeOf9
  v9 := Tryz.zeroValue9
  t20 := Tryz.underlying20
  a20 := Tryz.isAgg20
  z20 := Tryz.sizeOf20
  v20 := Tryz.zeroValue20
  t37 := Tryz.underlying56
  a37 := Tryz.isAgg56
  z37 := Tryz.sizeOf56
  v37 := Tryz.zeroValue56
  t46 := Tryz.underlying190
  a46 := Tryz.isAgg190
  z46 := Tryz.sizeOf190
  v46 := Tryz.zeroValue190
  t51 := Tryz.underlying204
  a51 := Tryz.isAgg204
  z51 := Tryz.sizeOf204
  v51 := Tryz.zeroValue204
  t53 := Tryz.underlying199
  a53 := Tryz.isAgg199
  z53 := Tryz.sizeOf199
  v53 := Tryz.zeroValue199
  t171 := Tryz.underlying198
  a171 := Tryz.isAgg198
  z171 := Tryz.sizeOf198
  v171 := Tryz.zeroValue198
  t173 := Tryz.underlying202
  a173 := Tryz.isAgg202
  z173 := Tryz.sizeOf202
  v173 := Tryz.zeroValue202
  t212 := Tryz.underlying219
  a212 := Tryz.isAgg219
  z212 := Tryz.sizeOf219
  v212 := Tryz.zeroValue219
  t213 := Tryz.underlying220
  a213 := Tryz.isAgg220
  z213 := Tryz.sizeOf220
  t232 := Tryz.underlying227
  a232 := Tryz.isAgg227
  z232 := Tryz.sizeOf227
  v232 := Tryz.zeroValue227
  t233 := Tryz.underlying228
  a233 := Tryz.isAgg228
  z233 := Tryz.sizeOf228
  v233 := Tryz.zeroValue228
  g17 := by kernel_rfl
  g18 := by kernel_rfl
  g19 := by kernel_rfl
  i0 := by kernel_rfl
  i2 := by kernel_rfl
  i3 := by kernel_rfl
  i4 := by kernel_rfl
  i5 := by kernel_rfl
  i9 := by kernel_rfl
  i20 := by kernel_rfl
  i37 := by kernel_rfl
  i46 := by kernel_rfl
  i51 := by kernel_rfl
  i53 := by kernel_rfl
  i171 := by kernel_rfl
  i173 := by kernel_rfl
  i212 := by kernel_rfl
  i232 := by kernel_rfl
  i233 := by kernel_rfl
  m17 := by kernel_rfl
  m18 := by kernel_rfl
  m19 := by kernel_rfl }
end Go.Proofs.YtcloigoajohppaaGreatDoor
/- Abstract states: maps whose elements are pointers to boxes. Generic. -/
namespace Go.Proofs.YtcloigoajohppaaGreatDoor
open Go.RowKit Go.Maps
open Go.Maps (Keyed)
namespace Av

section
variable {P : Program} {k : TypeId} {n d : Nat} {σ : St} {o : Oper} {K : St → Prop}
theorem hand_isNil {T T' : TypeId} {x : Operand} {u : AV} (ho : o.op = .binOp .eql T x (.const (.pointer none)) T') (hd : o.dst = some d) (hdn : d < n) (hT : P.underlying T = some (.pointer (P.pointee T))) (hx : evo (look σ.slot) x = some u) (hu : ptrB u = true ∨ u = .v (.pointer none))
    (h : K (σ.put d (.v (.bool (!ptrB u))))) : Hand P n σ o K := by
  refine hand_value hd hdn fun F γ a w _ hr => ?_
  have e1 := (evo_ok hr (fun _ _ _ hy => hy) hx).1
  refine ⟨.v (.bool (!ptrB u)), .bool (!ptrB u), w, σ.ext, ?_, Turn.same hr.exth (fun _ h => h) (fun _ h => .inr h), rfl, (fun k hk => by cases hk), h⟩
  have e2 : (ptrB u = true ∧ ∃ p, a.eval x = .pointer (some p)) ∨ (ptrB u = false ∧ a.eval x = .pointer none) := by
    rcases hu with hu | rfl
    · refine .inl ⟨hu, ?_⟩
      cases u with
      | ref k off => exact ⟨_, e1⟩
      | ept row => obtain ⟨b, off, us, e, _⟩ := e1; exact ⟨_, e⟩
      | v y =>
        cases y with
        | pointer q =>
          cases q with
          | some p => exact ⟨p, e1⟩
          | none => cases hu
        | _ => cases hu
      | _ => cases hu
    · exact .inr ⟨rfl, e1⟩
  have e3 : a.eval (.const (.pointer none)) = .pointer none := rfl
  rcases e2 with ⟨h1, p, h2⟩ | ⟨h1, h2⟩
  · rw [h1]
    simp [execOp, ho, h2, e3, eqGuard, binOp, run_equal_pointer_nil w T (some p) hT]
  · rw [h1]
    simp [execOp, ho, h2, e3, eqGuard, binOp, run_equal_pointer_nil w T none hT]
end
end Av
end Go.Proofs.YtcloigoajohppaaGreatDoor
/- Abstract states: a region that draws its order, with effects: appends, stores; any two operations of which neither waits for the other leave one another alone (footprints, checked by the kernel). Generic. -/
namespace Go.Proofs.YtcloigoajohppaaGreatDoor
open Go.RowKit
namespace Av

structure Eff where
  slot : Option (Nat × AV) := none
  nbox : Option (Nat × List PV) := none
  pat : Option (Nat × Nat × List PV) := none
  own : List (Loc × Option (TypeId × Nat)) := []
def ovr : List (Loc × Option (TypeId × Nat)) → List (Loc × (TypeId × Nat)) → List (Loc × (TypeId × Nat))
  | [], o => o
  | (L, none) :: l, o => delL (ovr l o) L
  | (L, some e) :: l, o => (L, e) :: delL (ovr l o) L
def putO {α : Type} (x : Option (Nat × α)) (l : List (Nat × α)) : List (Nat × α) := match x with
  | some y => y :: l
  | none => l
def patO (x : Option (Nat × Nat × List PV)) (l : List (Nat × List PV)) : List (Nat × List PV) := match x with
  | some (k, off, xs) => (k, setAt ((look l k).getD []) off xs) :: l
  | none => l
def Eff.app (E : Eff) (σ : St) : St := { slot := putO E.slot σ.slot, box := patO E.pat (putO E.nbox σ.box), own := ovr E.own σ.own, ext := σ.ext }
def Eqv (σ τ : St) : Prop := (∀ t, look τ.slot t = look σ.slot t) ∧ (∀ k, look τ.box k = look σ.box k) ∧ (∀ L, lookL τ.own L = lookL σ.own L) ∧ τ.ext = σ.ext
theorem Eqv.refl (σ : St) : Eqv σ σ := ⟨fun _ => rfl, fun _ => rfl, fun _ => rfl, rfl⟩
theorem Eqv.symm {σ τ : St} (h : Eqv σ τ) : Eqv τ σ := ⟨fun t => (h.1 t).symm, fun t => (h.2.1 t).symm, fun t => (h.2.2.1 t).symm, h.2.2.2.symm⟩
theorem Eqv.trans {σ τ υ : St} (h : Eqv σ τ) (g : Eqv τ υ) : Eqv σ υ := ⟨fun t => (g.1 t).trans (h.1 t), fun t => (g.2.1 t).trans (h.2.1 t), fun t => (g.2.2.1 t).trans (h.2.2.1 t), g.2.2.2.trans h.2.2.2⟩
structure FP where
  rs : List Nat
  ws : List Nat
  ro : List Loc
  wo : List Loc
  rb : List Nat
  wb : List (Nat × Nat × Nat)
  nb : List Nat
structure Fits (WB : List Nat) (f : FP) (E : Eff) : Prop where
  slot : ∀ x, E.slot = some x → x.1 ∈ f.ws
  nbox : ∀ x, E.nbox = some x → x.1 ∈ f.nb
  pat : ∀ k off xs, E.pat = some (k, off, xs) → (k, off, xs.length) ∈ f.wb
  own : ∀ x ∈ E.own, x.1 ∈ f.wo
  nbW : ∀ k ∈ f.nb, k ∈ WB
  wbW : ∀ x ∈ f.wb, x.1 ∈ WB
structure Agree (WB : List Nat) (f : FP) (σi σ : St) : Prop where
  rs : ∀ t ∈ f.rs, look σ.slot t = look σi.slot t
  ro : ∀ L ∈ f.ro, lookL σ.own L = lookL σi.own L
  rb : ∀ k, k ∈ f.rb ∨ k ∉ WB → look σ.box k = look σi.box k
  wb : ∀ k o n, (k, o, n) ∈ f.wb → ∃ cs, look σ.box k = some cs ∧ o + n ≤ cs.length
  nb : ∀ k ∈ f.nb, look σ.box k = none
  ext : σ.ext = σi.ext
section
variable {WB : List Nat} {f g : FP} {E G : Eff} {σ : St}
end
end Av
end Go.Proofs.YtcloigoajohppaaGreatDoor
/- Abstract states: the walk through a region that draws its order, with effects. Generic. -/
namespace Go.Proofs.YtcloigoajohppaaGreatDoor
open Go.RowKit
namespace Av

section
variable {P : Program} {F : Fr} {ops : Array Oper}
structure StepX (P : Program) (F : Fr) (ops : Array Oper) (WB : List Nat) (σ : St) (o : Oper) (f : FP) (E : Eff) (σ' : St) : Prop where
  fits : Fits WB f E
  agree : Agree WB f σ σ
  next : Eqv σ' (E.app σ)
  run : ∀ τ γ a w, Agree WB f σ τ → Rel F τ γ a w → ∀ Q i, ops[i]? = some o → wpOp P ops Q i (fun a' w' => ∃ γ', Rel F (E.app τ) γ' a' w') a w
inductive RunX (P : Program) (F : Fr) (ops : Array Oper) (WB : List Nat) : List Oper → St → List (St × FP × Eff) → St → Prop
  | nil {σ : St} : RunX P F ops WB [] σ [] σ
  | cons {o : Oper} {l : List Oper} {σ σ1 σ' : St} {f : FP} {E : Eff} {T : List (St × FP × Eff)} (h : StepX P F ops WB σ o f E σ1) (t : RunX P F ops WB l σ1 T σ') : RunX P F ops WB (o :: l) σ ((σ, f, E) :: T) σ'
theorem RunX.length {WB : List Nat} {l : List Oper} {σ σ' : St} {T : List (St × FP × Eff)} (h : RunX P F ops WB l σ T σ') : T.length = l.length := by
  induction h with
  | nil => rfl
  | cons _ _ ih => simp [ih]
theorem RunX.at {WB : List Nat} {l : List Oper} {σ σ' : St} {T : List (St × FP × Eff)} (h : RunX P F ops WB l σ T σ') : ∀ {i : Nat} {x : St × FP × Eff}, T[i]? = some x → ∃ o σ1, l[i]? = some o ∧ StepX P F ops WB x.1 o x.2.1 x.2.2 σ1 := by
  induction h with
  | nil => intro i x hx; simp at hx
  | cons h _ ih =>
    intro i x hx
    cases i with
    | zero => simp at hx; subst hx; exact ⟨_, _, rfl, h⟩
    | succ i => simpa using ih (by simpa using hx)
end
end Av
end Go.Proofs.YtcloigoajohppaaGreatDoor
/- Abstract states: contracts that were proved over memory, lifted. Generic. -/
namespace Go.Proofs.YtcloigoajohppaaGreatDoor
open Go.RowKit
namespace Av

theorem fn_of {P : Program} {f : FuncId} {args : List AV} {res : FRes} (hf : Enters P f) (h : ∀ (w : World) (R : Reader), (∀ p v, R p = some v → w.cell? p = some v) → ∀ us, RepAL R args us →
    Calls P f us.toArray w fun e w' => ∃ u, e = .returned u ∧ Below w.heap.size w w' ∧ ResRep R w w' res u) : FnOK P f args res := ⟨hf, h⟩
end Av
end Go.Proofs.YtcloigoajohppaaGreatDoor
/- Abstract data: numbers, bytes; slices. -/
namespace Go.Proofs.YtcloigoajohppaaGreatDoor
open Go.RowKit
open Av
set_option maxRecDepth 100000
set_option linter.unusedSimpArgs false

abbrev iv (n : Int) : AV := .v (.int .i64 n)
abbrev ip (n : Int) : PV := .v (.int .i64 n)
abbrev bv (b : Bool) : AV := .v (.bool b)
end Go.Proofs.YtcloigoajohppaaGreatDoor
/- Sizes and zero values of types. -/
namespace Go.Proofs.YtcloigoajohppaaGreatDoor
open Go.RowKit
open Av
set_option maxRecDepth 100000
set_option linter.unusedSimpArgs false
theorem all_arr {α : Type} {l : List α} {p : α → Bool} {n : Nat} (h : n = l.length) : l.toArray.all p 0 n = l.all p := by subst h; simp
theorem loc_ss (a b : Nat) : (Loc.s a == Loc.s b) = (a == b) := by rw [Bool.eq_iff_iff, beq_iff_eq, beq_iff_eq, Loc.s.injEq]
theorem arr_two {α : Type} (a b c : α) : ((#[a, b] : Array α) = #[c]) = False := eq_false fun h => by have := congrArg Array.size h; simp at this
theorem arr_one {α : Type} (a b : α) : ((#[a] : Array α) = #[b]) = (a = b) := by simp
theorem Tryz.sz3 : (Tryz.prog.info? 3).map (·.size) = some 1 := by kernel_rfl
theorem Tryz.zr3 : (Tryz.prog.info? 3).map (·.zero) = some (some (.int .i64 0)) := by kernel_rfl
theorem Tryz.pl3 (k : Nat) : (Tryz.prog.info? 3).map (fun t => (k, t.size)) = some (k, 1) := by
  have h := Tryz.sz3
  cases hi : Tryz.prog.info? 3 with
  | none => rw [hi] at h; cases h
  | some i => rw [hi] at h; simp only [Option.map_some, Option.some.injEq] at h ⊢; rw [h]
theorem Tryz.is3 : (Tryz.prog.info? 3).isSome = true := by kernel_rfl
theorem Tryz.by3 : (Tryz.prog.info? 3).map (fun j => decide (j.bytes ≤ 1000000)) = some true := by kernel_rfl
theorem Tryz.sz4 : (Tryz.prog.info? 4).map (·.size) = some 1 := by kernel_rfl
theorem Tryz.pl4 (k : Nat) : (Tryz.prog.info? 4).map (fun t => (k, t.size)) = some (k, 1) := by
  have h := Tryz.sz4
  cases hi : Tryz.prog.info? 4 with
  | none => rw [hi] at h; cases h
  | some i => rw [hi] at h; simp only [Option.map_some, Option.some.injEq] at h ⊢; rw [h]
theorem Tryz.is4 : (Tryz.prog.info? 4).isSome = true := by kernel_rfl
theorem Tryz.sz9 : (Tryz.prog.info? 9).map (·.size) = some 1 := by kernel_rfl
theorem Tryz.zr9 : (Tryz.prog.info? 9).map (·.zero) = some (some (.string ⟨#[]⟩)) := by kernel_rfl
theorem Tryz.sz24 : (Tryz.prog.info? 24).map (·.size) = some 1 := by kernel_rfl
theorem Tryz.zr24 : (Tryz.prog.info? 24).map (·.zero) = some (some (.slice none 0 0)) := by kernel_rfl
theorem Tryz.by24 : (Tryz.prog.info? 24).map (fun j => decide (j.bytes ≤ 1000000)) = some true := by kernel_rfl
theorem Tryz.is72 : (Tryz.prog.info? 72).isSome = true := by kernel_rfl
theorem Tryz.zr74 : (Tryz.prog.info? 74).map (·.zero) = some (some (.agg #[.pointer none, .slice none 0 0, .bool false])) := by kernel_rfl
theorem Tryz.sz64 : (Tryz.prog.info? 64).map (·.size) = some 6 := by kernel_rfl
theorem Tryz.zr64 : (Tryz.prog.info? 64).map (·.zero) = some (some (.agg #[.int .i64 0, .int .i64 0, .int .i64 0, .int .i64 0, .int .i64 0, .int .i64 0])) := by kernel_rfl
theorem Tryz.pl64 (k : Nat) : (Tryz.prog.info? 64).map (fun t => (k, t.size)) = some (k, 6) := by
  have h := Tryz.sz64
  cases hi : Tryz.prog.info? 64 with
  | none => rw [hi] at h; cases h
  | some i => rw [hi] at h; simp only [Option.map_some, Option.some.injEq] at h ⊢; rw [h]
theorem Tryz.is64 : (Tryz.prog.info? 64).isSome = true := by kernel_rfl
theorem Tryz.sz67 : (Tryz.prog.info? 67).map (·.size) = some 7 := by kernel_rfl
theorem Tryz.zr67 : (Tryz.prog.info? 67).map (·.zero) = some (some (.agg #[.int .i64 0, .int .i64 0, .int .i64 0, .int .i64 0, .int .i64 0, .int .i64 0, .slice none 0 0])) := by kernel_rfl
theorem Tryz.sz26 : (Tryz.prog.info? 26).map (·.size) = some 6 := by kernel_rfl
theorem Tryz.sz30 : (Tryz.prog.info? 30).map (·.size) = some 3 := by kernel_rfl
theorem Tryz.sz126 : (Tryz.prog.info? 126).map (·.size) = some 3 := by kernel_rfl
theorem Tryz.zr126 : (Tryz.prog.info? 126).map (·.zero) = some (some (.agg #[.int .i64 0, .int .i64 0, .int .i64 0])) := by kernel_rfl
theorem Tryz.sz79 : (Tryz.prog.info? 79).map (·.size) = some 5 := by kernel_rfl
theorem Tryz.zr79 : (Tryz.prog.info? 79).map (·.zero) = some (some (.agg #[.int .i64 0, .int .i64 0, .int .i64 0, .int .i64 0, .int .i64 0])) := by kernel_rfl
theorem Tryz.pl79 (k : Nat) : (Tryz.prog.info? 79).map (fun t => (k, t.size)) = some (k, 5) := by
  have h := Tryz.sz79
  cases hi : Tryz.prog.info? 79 with
  | none => rw [hi] at h; cases h
  | some i => rw [hi] at h; simp only [Option.map_some, Option.some.injEq] at h ⊢; rw [h]
theorem Tryz.is79 : (Tryz.prog.info? 79).isSome = true := by kernel_rfl
theorem Tryz.sz81 : (Tryz.prog.info? 81).map (·.size) = some 7 := by kernel_rfl
theorem Tryz.zr81 : (Tryz.prog.info? 81).map (·.zero) = some (some (.agg #[.int .i64 0, .bool false, .int .i64 0, .int .i64 0, .int .i64 0, .int .i64 0, .int .i64 0])) := by kernel_rfl
theorem Tryz.sz83 : (Tryz.prog.info? 83).map (·.size) = some 5 := by kernel_rfl
theorem Tryz.zr83 : (Tryz.prog.info? 83).map (·.zero) = some (some (.agg #[.int .i64 0, .int .i64 0, .int .i64 0, .int .i64 0, .int .i64 0])) := by kernel_rfl
theorem Tryz.sz85 : (Tryz.prog.info? 85).map (·.size) = some 3 := by kernel_rfl
theorem Tryz.zr85 : (Tryz.prog.info? 85).map (·.zero) = some (some (.agg #[.int .i64 0, .int .i64 0, .int .i64 0])) := by kernel_rfl
theorem Tryz.sz35 : (Tryz.prog.info? 35).map (·.size) = some 15 := by kernel_rfl
theorem Tryz.zr35 : (Tryz.prog.info? 35).map (·.zero) = some (some (.agg #[.int .i64 0, .slice none 0 0, .int .i64 0, .int .i64 0, .slice none 0 0, .slice none 0 0, .slice none 0 0, .slice none 0 0, .int .i64 0, .int .i64 0, .slice none 0 0, .slice none 0 0, .slice none 0 0, .slice none 0 0, .int .i64 0])) := by kernel_rfl
theorem Tryz.is35 : (Tryz.prog.info? 35).isSome = true := by kernel_rfl
theorem Tryz.sz22 : (Tryz.prog.info? 22).map (·.size) = some 1 := by kernel_rfl
theorem Tryz.sz23 : (Tryz.prog.info? 23).map (·.size) = some 1 := by kernel_rfl
theorem Tryz.sz27 : (Tryz.prog.info? 27).map (·.size) = some 1 := by kernel_rfl
theorem Tryz.sz28 : (Tryz.prog.info? 28).map (·.size) = some 1 := by kernel_rfl
theorem Tryz.sz31 : (Tryz.prog.info? 31).map (·.size) = some 1 := by kernel_rfl
theorem Tryz.sz32 : (Tryz.prog.info? 32).map (·.size) = some 1 := by kernel_rfl
theorem Tryz.sz33 : (Tryz.prog.info? 33).map (·.size) = some 1 := by kernel_rfl
theorem Tryz.sz65 : (Tryz.prog.info? 65).map (·.size) = some 1 := by kernel_rfl
theorem Tryz.is65 : (Tryz.prog.info? 65).isSome = true := by kernel_rfl
theorem Tryz.sz68 : (Tryz.prog.info? 68).map (·.size) = some 1 := by kernel_rfl
theorem Tryz.zr68 : (Tryz.prog.info? 68).map (·.zero) = some (some (.slice none 0 0)) := by kernel_rfl
theorem Tryz.sz91 : (Tryz.prog.info? 91).map (·.size) = some 1 := by kernel_rfl
end Go.Proofs.YtcloigoajohppaaGreatDoor
/- Texts: strconv.Itoa. -/
namespace Go.Proofs.YtcloigoajohppaaGreatDoor
open Go.RowKit
open Av
set_option maxRecDepth 100000
set_option linter.unusedSimpArgs false
open Go.Sort in
theorem below_growT (w : World) (k : Nat) (os : Array Obj) : Below w.heap.size w (grow (w.drewN k) os) :=
  ⟨rfl, rfl, rfl, by show w.heap.size ≤ (w.heap ++ os).size; rw [Array.size_append]; omega, fun j hj => by
    show (w.heap ++ os)[j]? = _
    rw [Array.getElem?_append_left hj]⟩
def txtI (n : Int) : ByteArray := ⟨(Lib.itoa n).toArray⟩
def TabC (w : World) : Prop := Lib.TabIs Tryz.prog w "internal/strconv.uint64pow10" .u64 Lib.pow10Tab
theorem TabC.below {w w' : World} (hb : Below w.heap.size w w') (h : TabC w) : TabC w' := tab_below hb h
theorem itoa_okC (n : Int) (h0 : -9223372036854775808 ≤ n) (h1 : n ≤ 9223372036854775807) : FnOKC Tryz.prog TabC 58 [iv n] ⟨.v (.string (txtI n)), none⟩ := by
  refine ⟨⟨Tryz.f58, _, Tryz.func58, by kernel_rfl, rfl⟩, fun w R hC hR us hus => ?_⟩
  cases hus with | cons h0' _ hus =>
  cases hus
  rw [h0']
  refine (Any.strconv_Itoa Tryz.laysM171 n h0 h1 w hC).mono ?_
  rintro e w' ⟨rfl, k, os, rfl⟩
  exact ⟨_, rfl, below_growT w k os, rfl, rfl⟩
end Go.Proofs.YtcloigoajohppaaGreatDoor
/- strings.Builder at the head of a writer: copyCheck, WriteString, WriteByte, over memory. -/
namespace Go.Proofs.YtcloigoajohppaaGreatDoor
open Go.RowKit
open Av
set_option linter.unusedSimpArgs false
def WAt (b : Nat) (p v : Value) (bd : Bool) (w : World) : Prop := w.heap[b]? = some (.cells #[p, v, .bool bd] 74 (0, 0))
theorem liesW : liesAt Tryz.prog Tryz.prog.depth 74 (3 / Tryz.prog.cellsOf 74) 0 72 1 = true := by kernel_rfl
theorem sizeBld : (Tryz.prog.info? 72).map (·.size) = some 2 := by kernel_rfl
theorem WAt.cell {b : Nat} {p v : Value} {bd : Bool} {w : World} (h : WAt b p v bd w) : w.cell? ⟨b, 0, none⟩ = some p ∧ w.cell? ⟨b, 1, none⟩ = some v ∧ w.cell? ⟨b, 2, none⟩ = some (.bool bd) := by
  refine ⟨?_, ?_, ?_⟩ <;> rw [Lib.cell_of_heap h] <;> rfl

set_option maxRecDepth 100000 in
set_option maxHeartbeats 1000000 in
theorem copyCheck_used (b : Nat) (v : Value) (bd : Bool) (w : World) (h : WAt b (.pointer (some ⟨b, 0, none⟩)) v bd w) :
    Calls Tryz.prog 93 #[.pointer (some ⟨b, 0, none⟩)] w fun e w' => e = .returned (.tuple #[]) ∧ w' = w := by
  obtain ⟨j, hj, _⟩ := Option.map_eq_some_iff.1 sizeBld
  obtain ⟨h0, _, _⟩ := h.cell
  clear h
  go_enter Tryz.func93, Tryz.ntmps93
  go_wp2
  rw [Lib.run_neq_ptr_same w _ Tryz.underlying70 hj]
  go_wp2
  go_end0
  exact ⟨rfl, rfl⟩

set_option maxRecDepth 100000 in
set_option maxHeartbeats 1000000 in
theorem copyCheck_fresh (b : Nat) (v : Value) (bd : Bool) (w : World) (h : WAt b (.pointer none) v bd w) :
    Calls Tryz.prog 93 #[.pointer (some ⟨b, 0, none⟩)] w fun e w' => e = .returned (.tuple #[]) ∧ w' = w.setCell ⟨b, 0, none⟩ (.pointer (some ⟨b, 0, none⟩)) := by
  obtain ⟨j, hj, hjs⟩ := Option.map_eq_some_iff.1 sizeBld
  obtain ⟨h0, _, _⟩ := h.cell
  have hsh : w.shape? b = some (74, 3) := by unfold World.shape?; rw [show w.heap[b]? = _ from h]; rfl
  have hfz : w.frozen? ⟨b, 0, none⟩ = false := Lib.frozen_of_heap h 0
  clear h
  go_enter Tryz.func93, Tryz.ntmps93
  go_wp2
  rw [Lib.run_to_unsafe w ⟨b, 0, none⟩ Tryz.underlying70 Tryz.underlying182 hj (by rw [hjs]; decide) hsh (Nat.zero_lt_succ 2)]
  simp only [Result.andThen]
  rw [Oper.upon_value]
  go_wp2
  rw [run_callFunc_extern Tryz.func122 (by kernel_rfl) (by kernel_rfl) (by kernel_rfl) (e := Extern.AbiNoEscape.same) (by kernel_rfl)]
  rw [Lib.run_noEscape]
  simp only [Result.andThen]
  rw [Oper.upon_value]
  go_wp2
  rw [Lib.run_from_unsafe w ⟨b, 0, none⟩ Tryz.underlying182 Tryz.underlying70 hj hsh liesW]
  simp only [Result.andThen]
  rw [Oper.upon_value]
  go_wp2
  go_end0
  exact ⟨rfl, rfl⟩
end Go.Proofs.YtcloigoajohppaaGreatDoor
/- strings.Builder at the head of a writer: WriteString, over memory. -/
namespace Go.Proofs.YtcloigoajohppaaGreatDoor
open Go.RowKit
open Av
set_option linter.unusedSimpArgs false
theorem append_str_block {P : Program} (w : World) (base : Nat) (t u ty e : TypeId) (i : TypeInfo) (ht : P.underlying t = some (.slice e)) (hu : P.underlying u = some .string) (hi : P.info? e = some i) (hz : i.zero = some (.int .u8 0))
    (hsize : i.size = 1) (hby : i.bytes = 1) (v : Value) (n : Nat) (xs : List Value) (hown : w.ownsRow base e 1 v n xs) (s : ByteArray) (hbytes : n + s.size ≤ 140737488355328) (hbase : base ≤ w.heap.size) :
    ∃ v' w', (Builtin.append_ #[t, u] ty #[v, .string s]).run P w = .ok v' w' ∧ w'.ownsRow base e 1 v' (n + s.size) (xs ++ Lib.strCells s) ∧ w.grownBy w' v.ownBlock ∧ (∀ k, v'.ownBlock = some k → v.ownBlock = some k ∨ k = w.heap.size) := by
  obtain ⟨v', w', h1, h2, h3, h4⟩ := Lib.run_append_own_string (P := P) w base t u ty e i ht hu hi hz hsize hby v n xs hown s (by unfold maxLen; omega) hbytes hbase
  refine ⟨v', w', h1, h2, h3, fun k hk => ?_⟩
  have hxl : xs.length = n := by simpa using hown.1
  rcases hown.2 with ⟨rfl, rfl⟩ | ⟨g, cap, cur, rfl, hbg, hg, hnc, hcm, hcs, htake⟩
  · by_cases hm : s.size = 0
    · rw [h4.2 ⟨rfl, hm⟩] at hk
      cases hk
    · rw [run_append_nil_string (P := P) w t u ty e i (.int .u8 0) ht hu hi hz s (by omega) (by omega) (by rw [hby]; omega)] at h1
      cases h1
      cases hk
      exact .inr rfl
  · have hcs' : cur.size = cap := by simpa using hcs
    by_cases hroom : n + s.size ≤ cap
    · rw [Lib.run_append_room_string (P := P) w t u ty e i ht hu hi hsize g n cap cur hg s hroom (by omega)] at h1
      cases h1
      exact .inl hk
    · rw [Lib.run_append_grow_string (P := P) w t u ty e i (.int .u8 0) ht hu hi hz ⟨g, 0, none⟩ n cap xs (by rw [hsize]; simpa using hxl) (hown.cells (g := g) rfl) s (by omega) (by omega) (by rw [hby]; exact growslice_fits (by omega) (by omega))] at h1
      cases h1
      cases hk
      exact .inr rfl
theorem wp_append_str {P : Program} (w : World) {ops : Array Oper} {rest : List Oper} {o : Oper} {a : Act} {Q : Exit → Act → World → Prop} (hgd : o.guard = none) (sl x : Operand) (t u : TypeId)
    (ho : o.op = .call { callee := .builtin .append, args := #[sl, x], argTypes := #[t, u] })
    (base : Nat) (e : TypeId) (i : TypeInfo) (ht : P.underlying t = some (.slice e)) (hu : P.underlying u = some .string) (hi : P.info? e = some i) (hz : i.zero = some (.int .u8 0))
    (hsize : i.size = 1) (hby : i.bytes = 1) (v : Value) (n : Nat) (xs : List Value) (hs : a.eval sl = v) (hown : w.ownsRow base e 1 v n xs) (s : ByteArray) (hx : a.eval x = .string s)
    (hbytes : n + s.size ≤ 140737488355328) (hbase : base ≤ w.heap.size)
    (h : ∀ v' w', w'.ownsRow base e 1 v' (n + s.size) (xs ++ Lib.strCells s) → w.grownBy w' v.ownBlock → (∀ k, v'.ownBlock = some k → v.ownBlock = some k ∨ k = w.heap.size) → wpList P ops Q rest (a.put o.dst v') w') : wpList P ops Q (o :: rest) a w := by
  refine wpList_plain hgd fun K hK => ?_
  obtain ⟨v', w', hr, h2, h3, h4⟩ := append_str_block (P := P) w base t u o.type e i ht hu hi hz hsize hby v n xs hown s hbytes hbase
  unfold Oper.wp execOp
  simp only [ho, resolve, invoke, builtin, Sem.run_bind, Sem.run_pure, Result.andThen_ok, List.map_toArray, List.map_cons, List.map_nil, hs, hx, hr]
  exact hK _ _ (h v' w' h2 h3 h4)
theorem infoB : (Tryz.prog.info? 5).map (fun i => (i.zero, i.size, i.bytes)) = some (some (.int .u8 0), 1, 1) := by kernel_rfl
theorem WAt.lt {b : Nat} {p v : Value} {bd : Bool} {w : World} (h : WAt b p v bd w) : b < w.heap.size := by
  rcases Nat.lt_or_ge b w.heap.size with h' | h'
  · exact h'
  · have : w.heap[b]? = some _ := h
    simp [Array.getElem?_eq_none h'] at this
theorem copyCheck_any (b : Nat) (st : Bool) (v : Value) (bd : Bool) (w : World) (h : WAt b (selfV st b) v bd w) :
    Calls Tryz.prog 93 #[.pointer (some ⟨b, 0, none⟩)] w fun e w' => e = .returned (.tuple #[]) ∧ WAt b (selfV true b) v bd w' ∧ w.grownBy w' (some b) ∧ w'.heap.size = w.heap.size := by
  cases st with
  | true =>
    refine (copyCheck_used b v bd w h).mono ?_
    rintro e w' ⟨rfl, rfl⟩
    exact ⟨rfl, h, ⟨rfl, rfl, rfl, Nat.le_refl _, fun _ _ _ => rfl⟩, rfl⟩
  | false =>
    refine (copyCheck_fresh b v bd w h).mono ?_
    rintro e w' ⟨rfl, rfl⟩
    refine ⟨rfl, ?_, Lib.grownBy_setCell w b 0 _, by simp [World.setCell]⟩
    have hb : w.heap[b]? = some _ := h
    simp [WAt, World.setCell, Array.getElem?_modify, hb, selfV]
set_option maxRecDepth 100000 in
theorem writeString_mem (b : Nat) (st bd : Bool) (bs : List Value) (V : Value) (s : ByteArray) (w : World) (h : (bldE 74 5 b st [.bool bd] bs V).holds w) (hlen : bs.length + s.size ≤ 140737488355328) :
    Calls Tryz.prog 52 #[.pointer (some ⟨b, 0, none⟩), .string s] w fun e w' => ∃ V', e = .returned (.tuple #[.int .i64 s.size, .nilIface]) ∧
      Turn (bldE 74 5 b st [.bool bd] bs V) w w' (bldE 74 5 b true [.bool bd] (bs ++ Lib.strCells s) V') := by
  obtain ⟨i0, hi, hz0, hz1, hz2⟩ := info_parts infoB
  obtain ⟨hbk, hown, hne⟩ := h
  have e240 : ∀ args w, (callFunc 93 args).run Tryz.prog w = .ok (.enter 93 args) w := enters_of Tryz.func93 (by kernel_rfl) rfl
  have hlt0 : b < w.heap.size := WAt.lt (w := w) hbk
  go_enter Tryz.func52, Tryz.ntmps52
  go_wp2_with (go_at_fn 93; refine (copyCheck_any b st V bd _ hbk).mono ?_)
  rintro e w1 ⟨rfl, hb1, hg1, hsz1⟩
  obtain ⟨c0, c1, _⟩ := hb1.cell
  have hown1 : w1.ownsRow 0 5 1 V bs.length bs := hown.kept hg1 (Or.inr hne)
  go_wp2_with (at_builtin; refine wp_append_str _ rfl _ _ 56 9 rfl 0 5 i0 Tryz.underlying56 Tryz.underlying9 hi hz0 hz1 hz2 _ _ _ rfl hown1 s rfl ?c4 ?c5 ?_)
  case c4 => exact hlen
  case c5 => exact Nat.zero_le _
  intro v' w2 hown' hgrow hblk
  have hlt : b < w1.heap.size := by omega
  have hb2 : w2.heap[b]? = some (.cells #[selfV true b, V, .bool bd] 74 (0, 0)) := by
    rw [hgrow.block b hlt (fun e => hne e.symm)]
    exact hb1
  have d0 : w2.cell? ⟨b, 0, none⟩ = some (selfV true b) := by rw [Lib.cell_of_heap hb2]; rfl
  have d1 : w2.cell? ⟨b, 1, none⟩ = some V := by rw [Lib.cell_of_heap hb2]; rfl
  have f1 : w2.frozen? ⟨b, 1, none⟩ = false := Lib.frozen_of_heap hb2 1
  have hne' : v'.ownBlock ≠ some b := fun e => by
    rcases hblk b e with h | h
    · exact hne h
    · omega
  have hlt2 : ∀ k, v'.ownBlock = some k → k < w2.heap.size := fun k hk => (hown'.lt k hk).2
  obtain ⟨ao, n', cap, rfl⟩ : ∃ ao n' cap, v' = .slice ao n' cap := by
    rcases hown'.2 with ⟨hv, _⟩ | ⟨g, cap, cur, hv, _⟩
    · exact ⟨_, _, _, hv⟩
    · exact ⟨_, _, _, hv⟩
  go_wp2
  go_ret2
  have hg3 := Lib.grownBy_setCell w2 b 1 (.slice ao n' cap)
  have hs3 : (w2.setCell ⟨b, 1, none⟩ (.slice ao n' cap)).heap.size = w2.heap.size := by simp [World.setCell]
  refine ⟨_, rfl, hg3.os.trans (hgrow.os.trans hg1.os), hg3.tape.trans (hgrow.tape.trans hg1.tape), hg3.output.trans (hgrow.output.trans hg1.output), Nat.le_trans hg1.size (Nat.le_trans hgrow.size hg3.size), fun k hk hn => ?_, ⟨?_, ?_, hne'⟩, fun y hy => ?_, fun y hy => hy.elim, fun _ _ => trivial, fun _ _ => trivial, fun _ h => h.elim⟩
  · have k1 : some k ≠ some b := fun e => hn (.inl (by cases e; rfl))
    have k2 : some k ≠ V.ownBlock := fun e => hn (.inr e.symm)
    have s2 := hgrow.size
    rw [hg3.block k (by omega) k1, hgrow.block k (by omega) k2, hg1.block k hk k1]
  · simp [World.setCell, Array.getElem?_modify, hb2]
  · have := hown'.kept hg3 (Or.inr hne')
    simpa [Lib.strCells_length] using this
  · rcases hy with hy | hy
    · exact .inl (.inl hy)
    · rcases hblk y hy with h | h
      · exact .inl (.inr h)
      · have := hlt2 y hy
        exact .inr ⟨by omega, by omega⟩
end Go.Proofs.YtcloigoajohppaaGreatDoor
/- strings.Builder at the head of a writer: WriteByte, over memory. -/
namespace Go.Proofs.YtcloigoajohppaaGreatDoor
open Go.RowKit
open Av
set_option linter.unusedSimpArgs false
theorem append_row_block {P : Program} (w : World) (base : Nat) (t ty e : TypeId) (i : TypeInfo) (z : Value) (ht : P.underlying t = some (.slice e)) (hi : P.info? e = some i) (hz : i.zero = some z) (hsize : i.size = 1) (hby : i.bytes = 1) (hzs : z.cells.size = 1)
    (v : Value) (n : Nat) (xs : List Value) (hown : w.ownsRow base e 1 v n xs) (a : Addr) (m c : Nat) (hm0 : 0 < m) (news : List Value) (hl : news.length = m) (hnews : ∀ j u, news[j]? = some u → w.cell? (a.add j) = some u) (h1 : ∀ u ∈ news, u.oneCell' = true)
    (hbytes : n + m ≤ 140737488355328) (hbase : base ≤ w.heap.size) :
    ∃ v' w', (Builtin.append_ #[t, t] ty #[v, .slice (some a) m c]).run P w = .ok v' w' ∧ w'.ownsRow base e 1 v' (n + m) (xs ++ news) ∧ w.grownBy w' v.ownBlock ∧ (∀ k, v'.ownBlock = some k → v.ownBlock = some k ∨ k = w.heap.size) := by
  obtain ⟨v', w', r1, h2, h3, h4⟩ := run_append_own (P := P) w base t ty e i z 1 1 ht hi hz hsize hby hzs (by decide) v n xs hown a m c news (by simpa using hl) hnews h1 (by unfold maxLen; omega) (by omega) hbase
  refine ⟨v', w', r1, h2, h3, fun k hk => ?_⟩
  have hxl : xs.length = n := by simpa using hown.1
  rcases hown.2 with ⟨rfl, rfl⟩ | ⟨g, cap, cur, rfl, hbg, hg, hnc, hcm, hcs, htake⟩
  · rw [run_append_nil (P := P) w t ty e i z ht hi hz a m c news (by rw [hsize]; simpa using hl) hnews hm0 (by omega) (by rw [hby]; omega)] at r1
    cases r1
    cases hk
    exact .inr rfl
  · have hcs' : cur.size = cap := by simpa using hcs
    by_cases hroom : n + m ≤ cap
    · rw [run_append_room (P := P) w t ty e i ht hi g n cap cur hg a m c news (by rw [hsize]; simpa using hl) hnews h1 hroom (by rw [hsize]; omega)] at r1
      cases r1
      exact .inl hk
    · rw [run_append_grow (P := P) w t ty e i z ht hi hz ⟨g, 0, none⟩ n cap xs (by rw [hsize]; simpa using hxl) (hown.cells (g := g) rfl) a m c news (by rw [hsize]; simpa using hl) hnews (by omega) (by omega) (by rw [hby]; exact growslice_fits (by omega) (by omega))] at r1
      cases r1
      cases hk
      exact .inr rfl
theorem wp_append_row {P : Program} (w : World) {ops : Array Oper} {rest : List Oper} {o : Oper} {a : Act} {Q : Exit → Act → World → Prop} (hgd : o.guard = none) (s x : Operand) (t : TypeId)
    (ho : o.op = .call { callee := .builtin .append, args := #[s, x], argTypes := #[t, t] })
    (base : Nat) (e : TypeId) (i : TypeInfo) (z : Value) (ht : P.underlying t = some (.slice e)) (hi : P.info? e = some i) (hz : i.zero = some z) (hsize : i.size = 1) (hby : i.bytes = 1) (hzs : z.cells.size = 1)
    (v : Value) (n : Nat) (xs : List Value) (hs : a.eval s = v) (hown : w.ownsRow base e 1 v n xs) (ad : Addr) (m c : Nat) (hm0 : 0 < m) (news : List Value) (hx : a.eval x = .slice (some ad) m c) (hl : news.length = m) (hnews : ∀ j u, news[j]? = some u → w.cell? (ad.add j) = some u) (h1 : ∀ u ∈ news, u.oneCell' = true)
    (hbytes : n + m ≤ 140737488355328) (hbase : base ≤ w.heap.size)
    (h : ∀ v' w', w'.ownsRow base e 1 v' (n + m) (xs ++ news) → w.grownBy w' v.ownBlock → (∀ k, v'.ownBlock = some k → v.ownBlock = some k ∨ k = w.heap.size) → wpList P ops Q rest (a.put o.dst v') w') : wpList P ops Q (o :: rest) a w := by
  refine wpList_plain hgd fun K hK => ?_
  obtain ⟨v', w', hr, h2, h3, h4⟩ := append_row_block (P := P) w base t o.type e i z ht hi hz hsize hby hzs v n xs hown ad m c hm0 news hl hnews h1 hbytes hbase
  unfold Oper.wp execOp
  simp only [ho, resolve, invoke, builtin, Sem.run_bind, Sem.run_pure, Result.andThen_ok, List.map_toArray, List.map_cons, List.map_nil, hs, hx, hr]
  exact hK _ _ (h v' w' h2 h3 h4)
set_option maxRecDepth 100000 in
theorem writeByte_mem (b : Nat) (st bd : Bool) (bs : List Value) (V : Value) (c : Int) (w : World) (h : (bldE 74 5 b st [.bool bd] bs V).holds w) (hlen : bs.length + 1 ≤ 140737488355328) :
    Calls Tryz.prog 59 #[.pointer (some ⟨b, 0, none⟩), .int .u8 c] w fun e w' => ∃ V', e = .returned .nilIface ∧
      Turn (bldE 74 5 b st [.bool bd] bs V) w w' (bldE 74 5 b true [.bool bd] (bs ++ [.int .u8 c]) V') := by
  obtain ⟨i0, hi, hz0, hz1, hz2⟩ := info_parts infoB
  obtain ⟨hbk, hown, hne⟩ := h
  have e240 : ∀ args w, (callFunc 93 args).run Tryz.prog w = .ok (.enter 93 args) w := enters_of Tryz.func93 (by kernel_rfl) rfl
  have hlt0 : b < w.heap.size := WAt.lt (w := w) hbk
  go_enter Tryz.func59, Tryz.ntmps59
  go_wp2_with (go_at_fn 93; refine (copyCheck_any b st V bd _ hbk).mono ?_)
  rintro e w1 ⟨rfl, hb1, hg1, hsz1⟩
  replace hsz1 := Nat.le_of_eq hsz1
  obtain ⟨c0, c1, _⟩ := hb1.cell
  have hown1 : w1.ownsRow 0 5 1 V bs.length bs := hown.kept hg1 (Or.inr hne)
  go_wp2_with (at_builtin; refine wp_append_row _ rfl _ _ 56 rfl 0 5 i0 (.int .u8 0) Tryz.underlying56 hi hz0 hz1 hz2 rfl _ _ _ rfl (hown1.alloc _) ⟨w1.heap.size, 0, none⟩ 1 1 (by decide) [.int .u8 c] rfl rfl ?c1 ?c2 ?c4 ?c5 ?_)
  case c1 =>
    intro j u hj
    match j, hj with
    | 0, hj => simp at hj; subst hj; simp [Addr.add]
  case c2 => intro u hu; simp at hu; subst hu; rfl
  case c4 => exact hlen
  case c5 => exact Nat.zero_le _
  intro v' w2 hown' hgrow hblk
  have hlt : b < w1.heap.size := Nat.lt_of_lt_of_le hlt0 hg1.size
  have hsA : (w1.alloc (.cells #[.int .u8 c] 5)).heap.size = w1.heap.size + 1 := Array.size_push ..
  have hgA := World.grownBy_alloc w1 (.cells #[.int .u8 c] 5) none
  have hb2 : w2.heap[b]? = some (.cells #[selfV true b, V, .bool bd] 74 (0, 0)) := by
    rw [hgrow.block b (by rw [hsA]; omega) (fun e => hne e.symm), Lib.alloc_old w1 _ b hlt]
    exact hb1
  have d0 : w2.cell? ⟨b, 0, none⟩ = some (selfV true b) := by rw [Lib.cell_of_heap hb2]; rfl
  have d1 : w2.cell? ⟨b, 1, none⟩ = some V := by rw [Lib.cell_of_heap hb2]; rfl
  have f1 : w2.frozen? ⟨b, 1, none⟩ = false := Lib.frozen_of_heap hb2 1
  have hne' : v'.ownBlock ≠ some b := fun e => by
    rcases hblk b e with h | h
    · exact hne h
    · first | omega | (rw [hsA] at h; omega)
  have hlt2 : ∀ k, v'.ownBlock = some k → k < w2.heap.size := fun k hk => (hown'.lt k hk).2
  obtain ⟨ao, n', cap, rfl⟩ : ∃ ao n' cap, v' = .slice ao n' cap := by
    rcases hown'.2 with ⟨hv, _⟩ | ⟨g, cap, cur, hv, _⟩
    · exact ⟨_, _, _, hv⟩
    · exact ⟨_, _, _, hv⟩
  go_wp2
  go_ret
  have hg3 := Lib.grownBy_setCell w2 b 1 (.slice ao n' cap)
  have hs3 : (w2.setCell ⟨b, 1, none⟩ (.slice ao n' cap)).heap.size = w2.heap.size := by simp [World.setCell]
  have s2 := hgrow.size
  rw [hsA] at s2
  have s1 := hg1.size
  refine ⟨_, rfl, hg3.os.trans (hgrow.os.trans (hgA.os.trans hg1.os)), hg3.tape.trans (hgrow.tape.trans (hgA.tape.trans hg1.tape)), hg3.output.trans (hgrow.output.trans (hgA.output.trans hg1.output)), by omega, fun k hk hn => ?_, ⟨?_, ?_, hne'⟩, fun y hy => ?_, fun y hy => hy.elim, fun _ _ => trivial, fun _ _ => trivial, fun _ h => h.elim⟩
  · have k1 : some k ≠ some b := fun e => hn (.inl (by cases e; rfl))
    have k2 : some k ≠ V.ownBlock := fun e => hn (.inr e.symm)
    rw [hg3.block k (by omega) k1, hgrow.block k (by rw [hsA]; omega) k2, Lib.alloc_old w1 _ k (by omega), hg1.block k hk k1]
  · simp [World.setCell, Array.getElem?_modify, hb2]
  · have := hown'.kept hg3 (Or.inr hne')
    simpa using this
  · rcases hy with hy | hy
    · exact .inl (.inl hy)
    · rcases hblk y hy with h | h
      · exact .inl (.inr h)
      · have := hlt2 y hy
        have := hg1.size
        first | exact .inr ⟨by omega, by omega⟩ | (rw [hsA] at h; exact .inr ⟨by omega, by omega⟩)
end Go.Proofs.YtcloigoajohppaaGreatDoor
/- strings.Builder at the head of a writer: String, over memory (the bytes are frozen: the writer is not used again). -/
namespace Go.Proofs.YtcloigoajohppaaGreatDoor
open Go.RowKit
open Av
set_option linter.unusedSimpArgs false
theorem freeze_block (w : World) (p : Addr) (n k : Nat) (h : k ≠ p.block) : (w.freeze p n).heap[k]? = w.heap[k]? := by
  unfold World.freeze
  split
  · rfl
  · simp only [Array.getElem?_modify]
    rw [if_neg (by omega)]
theorem freeze_rest (w : World) (p : Addr) (n : Nat) : (w.freeze p n).os = w.os ∧ (w.freeze p n).tape = w.tape ∧ (w.freeze p n).output = w.output ∧ (w.freeze p n).heap.size = w.heap.size := by
  unfold World.freeze
  split
  · exact ⟨rfl, rfl, rfl, rfl⟩
  · exact ⟨rfl, rfl, rfl, by simp⟩
theorem cellsB : Tryz.prog.cellsOf 5 = 1 := by kernel_rfl
set_option maxRecDepth 100000 in
theorem string_mem (b : Nat) (st bd : Bool) (l : List UInt8) (h0 : l ≠ []) (V : Value) (w : World) (h : (bldE 74 5 b st [.bool bd] (Lib.byteCells l) V).holds w) :
    Calls Tryz.prog 30 #[.pointer (some ⟨b, 0, none⟩)] w fun e w' => e = .returned (.string ⟨l.toArray⟩) ∧
      Turn (bldE 74 5 b st [.bool bd] (Lib.byteCells l) V) w w' Ext.nil := by
  obtain ⟨hbk, hown, hne⟩ := h
  have hl0 : l.length ≠ 0 := by simpa using h0
  rw [Lib.byteCells_length] at hown
  obtain ⟨g, cap, cur, rfl, hbg, hg, hnc, hcm, hcs, htake⟩ : ∃ g cap cur, V = .slice (some ⟨g, 0, none⟩) l.length cap ∧ 0 ≤ g ∧ w.heap[g]? = some (.cells cur 5 (0, 0)) ∧ l.length ≤ cap ∧ cap ≤ maxLen ∧ cur.size = cap * 1 ∧ cur.toList.take (l.length * 1) = Lib.byteCells l := by
    rcases hown.2 with ⟨_, hz⟩ | ⟨g, cap, cur, hv, r⟩
    · exact absurd hz hl0
    · exact ⟨g, cap, cur, hv, r⟩
  have c1 : w.drew.cell? ⟨b, 1, none⟩ = some (.slice (some ⟨g, 0, none⟩) l.length cap) := by
    have : w.drew.heap[b]? = some (.cells #[selfV st b, .slice (some ⟨g, 0, none⟩) l.length cap, .bool bd] 74 (0, 0)) := hbk
    rw [Lib.cell_of_heap this]; rfl
  have hSD : (Builtin.unsafeSliceData_ #[56] 128 #[.slice (some ⟨g, 0, none⟩) l.length cap]).run Tryz.prog w.drew = .ok (.pointer (some ⟨g, 0, none⟩)) w.drew :=
    Lib.run_unsafeSliceData_row _ _ _ _ _ _ (by omega)
  have hUS : (Builtin.unsafeString_ #[128, 3] 9 #[.pointer (some ⟨g, 0, none⟩), .int .i64 l.length]).run Tryz.prog w.drew = .ok (.string ⟨l.toArray⟩) (w.drew.freeze ⟨g, 0, none⟩ l.length) := by
    refine Lib.run_unsafeString_row w.drew 128 3 9 5 Tryz.underlying128 cellsB g cur.size (by have hg' : w.drew.heap[g]? = some (.cells cur 5 (0, 0)) := hg; simp [World.shape?, hg']) l h0 (by omega) (by unfold maxLen at hcm; omega) ?_
    intro j x hx
    have := hown.cells (g := g) rfl j (.int .u8 x.toNat) (by simp [Lib.byteCells, hx])
    exact this
  have fin : Turn (bldE 74 5 b st [.bool bd] (Lib.byteCells l) (.slice (some ⟨g, 0, none⟩) l.length cap)) w (w.drew.freeze ⟨g, 0, none⟩ l.length) Ext.nil := by
    obtain ⟨f1, f2, f3, f4⟩ := freeze_rest w.drew ⟨g, 0, none⟩ l.length
    refine ⟨f1, f2, f3, Nat.le_of_eq f4.symm, fun k hk hn => ?_, trivial, fun y hy => hy.elim, fun y hy => hy.elim, fun _ _ => trivial, fun _ _ => trivial, fun _ h => h.elim⟩
    exact freeze_block w.drew _ _ k (fun e => hn (.inr (by subst e; rfl)))
  go_enter Tryz.func30, Tryz.ntmps30
  go_wp2
  go_region
  all_goals (go_wp2; go_ret; exact ⟨rfl, fin⟩)
end Go.Proofs.YtcloigoajohppaaGreatDoor
/- strings.Builder at the head of a writer: the methods as functions that a writer is lent to. -/
namespace Go.Proofs.YtcloigoajohppaaGreatDoor
open Go.RowKit
open Av
set_option linter.unusedSimpArgs false
abbrev wrE (b : Nat) (x : Bool × List UInt8 × Bool) (V : Value) : Ext := bldE 74 5 b x.1 [.bool x.2.2] (Lib.byteCells x.2.1) V
abbrev wrP (b : Nat) : Value := .pointer (some ⟨b, 0, none⟩)
theorem cells_app (l : List UInt8) (s : ByteArray) : Lib.byteCells l ++ Lib.strCells s = Lib.byteCells (l ++ s.data.toList) := by simp [Lib.byteCells, Lib.strCells]
theorem cells_one (l : List UInt8) (c : UInt8) : Lib.byteCells l ++ [.int .u8 (c.toNat : Int)] = Lib.byteCells (l ++ [c]) := by simp [Lib.byteCells]
theorem writeString_okX (C : World → Prop) (b : Nat) (st bd : Bool) (l : List UInt8) (V : Value) (s : ByteArray) (hlen : l.length + s.size ≤ 140737488355328) :
    FnX Tryz.prog C 52 [.v (wrP b), .v (.string s)] (wrE b (st, l, bd) V) (.tup [.c (.v (.int .i64 s.size)), .c (.v .nilIface)]) (fun V' => wrE b (true, l ++ s.data.toList, bd) V') := by
  refine fnX_of (vs := [wrP b, .string s]) ⟨_, _, Tryz.func52, by kernel_rfl, rfl⟩ rfl fun w _ hx => ?_
  refine (writeString_mem b st bd _ V s w hx (by rw [Lib.byteCells_length]; exact hlen)).mono ?_
  rintro e w' ⟨V', rfl, ht⟩
  rw [cells_app] at ht
  exact ⟨_, V', rfl, ht, fun R => ⟨[_, _], rfl, .cons (.c (.v _ rfl)) (.cons (.c (.v _ rfl)) .nil)⟩⟩
theorem writeByte_okX (C : World → Prop) (b : Nat) (st bd : Bool) (l : List UInt8) (V : Value) (c : UInt8) (hlen : l.length + 1 ≤ 140737488355328) :
    FnX Tryz.prog C 59 [.v (wrP b), .v (.int .u8 (c.toNat : Int))] (wrE b (st, l, bd) V) (.v .nilIface) (fun V' => wrE b (true, l ++ [c], bd) V') := by
  refine fnX_of (vs := [wrP b, .int .u8 (c.toNat : Int)]) ⟨_, _, Tryz.func59, by kernel_rfl, rfl⟩ rfl fun w _ hx => ?_
  refine (writeByte_mem b st bd _ V _ w hx (by rw [Lib.byteCells_length]; exact hlen)).mono ?_
  rintro e w' ⟨V', rfl, ht⟩
  rw [cells_one] at ht
  exact ⟨_, V', rfl, ht, fun R => rfl⟩
theorem string_okX (C : World → Prop) (b : Nat) (st bd : Bool) (l : List UInt8) (V : Value) (h0 : l ≠ []) :
    FnX Tryz.prog C 30 [.v (wrP b)] (wrE b (st, l, bd) V) (.v (.string ⟨l.toArray⟩)) (fun _ : Unit => Ext.nil) := by
  refine fnX_of (vs := [wrP b]) ⟨_, _, Tryz.func30, by kernel_rfl, rfl⟩ rfl fun w _ hx => ?_
  refine (string_mem b st bd l h0 V w hx).mono ?_
  rintro e w' ⟨rfl, ht⟩
  exact ⟨_, (), rfl, ht, fun R => rfl⟩
end Go.Proofs.YtcloigoajohppaaGreatDoor
/- Scenarios in plain Lean: their lines, and the text of lines. -/
namespace Go.Proofs.YtcloigoajohppaaGreatDoor
set_option linter.unusedSimpArgs false
set_option linter.unusedVariables false
namespace Sc
theorem ba_size (s : ByteArray) : s.size = s.data.toList.length := (Array.length_toList (xs := s.data)).symm
structure Fw where
  id : Int
  fr : Int
  to : Int
  pe : Int
  ph : Int
  dl : Int
deriving DecidableEq
structure Rq where
  f : Fw
  rs : List (List Int)
deriving DecidableEq
structure Ce where
  sl : Int
  of : Int
  fr : Int
  to : Int
  fl : Int
deriving DecidableEq
structure Ch where
  sl : Int
  ad : Bool
  c : Ce
deriving DecidableEq
structure Wk where
  fr : Int
  to : Int
  fi : Int
  un : Int
  re : Int
deriving DecidableEq
structure Og where
  nd : Int
  fi : Int
  un : Int
deriving DecidableEq
structure Lk where
  fr : Int
  to : Int
  ls : Int
deriving DecidableEq
structure Nt where
  nodes : Int
  power : List (List Int)
  noise : Int
  thr : Int
  links : List Lk
  margin : List Int
deriving DecidableEq
structure Sn where
  net : Nt
  before : List Rq
  after : List Rq
  len : Int
  offs : Int
  cells : List Ce
  changes : List Ch
  weak : List Wk
  outs : List Og
  slots : Int
deriving DecidableEq

abbrev Ln := ByteArray × List Int
def wNetwork : ByteArray := ⟨#[110, 101, 116, 119, 111, 114, 107]⟩
def wPower : ByteArray := ⟨#[112, 111, 119, 101, 114]⟩
def wLink : ByteArray := ⟨#[108, 105, 110, 107]⟩
def wBefore : ByteArray := ⟨#[98, 101, 102, 111, 114, 101]⟩
def wAfter : ByteArray := ⟨#[97, 102, 116, 101, 114]⟩
def wRoute : ByteArray := ⟨#[114, 111, 117, 116, 101]⟩
def wSchedule : ByteArray := ⟨#[115, 99, 104, 101, 100, 117, 108, 101]⟩
def wCell : ByteArray := ⟨#[99, 101, 108, 108]⟩
def wAdd : ByteArray := ⟨#[97, 100, 100]⟩
def wRemove : ByteArray := ⟨#[114, 101, 109, 111, 118, 101]⟩
def wWeak : ByteArray := ⟨#[119, 101, 97, 107]⟩
def wOutage : ByteArray := ⟨#[111, 117, 116, 97, 103, 101]⟩
def wSlots : ByteArray := ⟨#[115, 108, 111, 116, 115]⟩
def farB (n : Int) : Bool := decide (n < -1099511627776) || decide (n > 1099511627776)
def lineB (word : ByteArray) (ns : List Int) : List UInt8 := word.data.toList ++ ns.flatMap fun n => 32 :: Lib.itoa n
def txt (l : List Ln) : List UInt8 := l.flatMap fun x => lineB x.1 x.2 ++ [10]
def farL (l : List Ln) : Bool := l.any fun x => x.2.any farB
@[simp] theorem txt_nil : txt [] = [] := rfl
theorem txt_append (l m : List Ln) : txt (l ++ m) = txt l ++ txt m := by simp [txt]
theorem txt_one (x : Ln) : txt [x] = lineB x.1 x.2 ++ [10] := by simp [txt]
theorem farL_append (l m : List Ln) : farL (l ++ m) = (farL l || farL m) := by simp [farL]
theorem farL_one (x : Ln) : farL [x] = x.2.any farB := by simp [farL]
@[simp] theorem farL_nil : farL [] = false := rfl
def Fw.nums (f : Fw) : List Int := [f.id, f.fr, f.to, f.pe, f.ph, f.dl]
def Ce.nums (c : Ce) : List Int := [c.sl, c.of, c.fr, c.to, c.fl]
def rtL (rs : List (List Int)) : List Ln := rs.map fun r => (wRoute, r)
def reqL1 (word : ByteArray) (q : Rq) : List Ln := (word, q.f.nums) :: rtL q.rs
def reqL (word : ByteArray) (q : List Rq) : List Ln := q.flatMap (reqL1 word)
def rtBad (r : List Int) : Bool := ((r.length : Int) == 0) || decide ((r.length : Int) > 1024) || r.any farB
def qBad (q : Rq) : Bool := q.f.nums.any farB || decide ((q.rs.length : Int) > 1024) || q.rs.any rtBad
def qsBad (q : List Rq) : Bool := decide ((q.length : Int) > 1024) || q.any qBad
def rowL (a : Nat) : Nat → List Int → List Ln
  | _, [] => []
  | b, p :: row => (if p = 0 then [] else [(wPower, [(a : Int), (b : Int), p])]) ++ rowL a (b + 1) row
def powL : Nat → List (List Int) → List Ln
  | _, [] => []
  | a, row :: rows => rowL a 0 row ++ powL (a + 1) rows
def linkL (n : Nt) : List Ln := (n.links.zip n.margin).map fun x => (wLink, [x.1.fr, x.1.to, x.1.ls, x.2])
def netL (n : Nt) : List Ln := (wNetwork, [n.nodes, n.noise, n.thr]) :: (powL 0 n.power ++ linkL n)
def chL (y : Ch) : Ln := (if y.ad then wAdd else wRemove, y.sl :: y.c.nums)
def wkL (y : Wk) : Ln := (wWeak, [y.fr, y.to, y.fi, y.un, y.re])
def ogL (y : Og) : Ln := (wOutage, [y.nd, y.fi, y.un])
def tailL (x : Sn) : List Ln :=
  (wSchedule, [x.len, x.offs]) :: (x.cells.map (fun c => (wCell, c.nums)) ++ (x.changes.map chL ++ (x.weak.map wkL ++ (x.outs.map ogL ++ [(wSlots, [x.slots])]))))
def linesOf (x : Sn) : List Ln := netL x.net ++ (reqL wBefore x.before ++ (reqL wAfter x.after ++ tailL x))
theorem reqL_take_succ {w : ByteArray} {q : List Rq} {k : Nat} {x : Rq} (h : q[k]? = some x) : reqL w (q.take (k + 1)) = reqL w (q.take k) ++ reqL1 w x := by
  unfold reqL
  rw [List.take_add_one, h, Option.toList_some, List.flatMap_append]
  simp
theorem map_take_succ {α β : Type} {f : α → β} {l : List α} {k : Nat} {x : α} (h : l[k]? = some x) : (l.take (k + 1)).map f = (l.take k).map f ++ [f x] := by
  rw [List.take_add_one, h, Option.toList_some, List.map_append]
  rfl
theorem rowL_append (a : Nat) : ∀ (b : Nat) (l m : List Int), rowL a b (l ++ m) = rowL a b l ++ rowL a (b + l.length) m
  | b, [], m => by simp [rowL]
  | b, p :: l, m => by
    rw [List.cons_append, rowL, rowL, rowL_append a (b + 1) l m, List.length_cons, List.append_assoc, show b + 1 + l.length = b + (l.length + 1) by omega]
theorem powL_append : ∀ (a : Nat) (l m : List (List Int)), powL a (l ++ m) = powL a l ++ powL (a + l.length) m
  | a, [], m => by simp [powL]
  | a, r :: l, m => by
    rw [List.cons_append, powL, powL, powL_append (a + 1) l m, List.length_cons, List.append_assoc, show a + 1 + l.length = a + (l.length + 1) by omega]
theorem rowL_take_succ {a k : Nat} {row : List Int} {p : Int} (h : row[k]? = some p) : rowL a 0 (row.take (k + 1)) = rowL a 0 (row.take k) ++ (if p = 0 then [] else [(wPower, [(a : Int), (k : Int), p])]) := by
  have hk := (List.getElem?_eq_some_iff.1 h).1
  rw [List.take_add_one, h, Option.toList_some, rowL_append, List.length_take, Nat.min_eq_left (Nat.le_of_lt hk), Nat.zero_add]
  simp [rowL]
theorem powL_take_succ {k : Nat} {rows : List (List Int)} {r : List Int} (h : rows[k]? = some r) : powL 0 (rows.take (k + 1)) = powL 0 (rows.take k) ++ rowL k 0 r := by
  have hk := (List.getElem?_eq_some_iff.1 h).1
  rw [List.take_add_one, h, Option.toList_some, powL_append, List.length_take, Nat.min_eq_left (Nat.le_of_lt hk), Nat.zero_add]
  simp [powL]
theorem split_at {α : Type} {l : List α} {k : Nat} {x : α} (h : l[k]? = some x) : l = l.take k ++ x :: l.drop (k + 1) := by
  obtain ⟨hk, rfl⟩ := List.getElem?_eq_some_iff.1 h
  rw [List.getElem_cons_drop, List.take_append_drop]
theorem txt_cons (x : Ln) (l : List Ln) : txt (x :: l) = lineB x.1 x.2 ++ [10] ++ txt l := by simp [txt]
theorem reqL_append (w : ByteArray) (p q : List Rq) : reqL w (p ++ q) = reqL w p ++ reqL w q := by simp [reqL]
theorem reqL_cons (w : ByteArray) (x : Rq) (q : List Rq) : reqL w (x :: q) = reqL1 w x ++ reqL w q := by simp [reqL]
theorem req_room {l : List UInt8} {w : ByteArray} {q : List Rq} {k : Nat} {x : Rq} {M : Nat} (h : q[k]? = some x) (hl : l.length + (txt (reqL w q)).length ≤ M) : (l ++ txt (reqL w (q.take k))).length + (txt (reqL1 w x)).length ≤ M := by
  rw [split_at h, reqL_append, reqL_cons, txt_append, txt_append, List.length_append, List.length_append] at hl
  rw [List.length_append]
  omega
theorem rt_room {T : List UInt8} {w : ByteArray} {ns : List Int} {rs : List (List Int)} {j : Nat} {r : List Int} {M : Nat} (h : rs[j]? = some r) (hl : T.length + (txt ((w, ns) :: rtL rs)).length ≤ M) : (T ++ txt ((w, ns) :: rtL (rs.take j))).length + (lineB wRoute r).length + 1 ≤ M := by
  have e : rtL rs = rtL (rs.take j) ++ (wRoute, r) :: rtL (rs.drop (j + 1)) := by
    conv => lhs; rw [split_at h]
    unfold rtL
    rw [List.map_append, List.map_cons]
  rw [e, txt_cons, txt_append, txt_cons] at hl
  rw [txt_cons]
  simp only [List.length_append, List.length_cons, List.length_nil] at hl ⊢
  omega
theorem rt_succ {w : ByteArray} {ns : List Int} {rs : List (List Int)} {j : Nat} {r : List Int} (h : rs[j]? = some r) : txt ((w, ns) :: rtL (rs.take (j + 1))) = txt ((w, ns) :: rtL (rs.take j)) ++ (lineB wRoute r ++ [10]) := by
  have e : rtL (rs.take (j + 1)) = rtL (rs.take j) ++ [(wRoute, r)] := map_take_succ h
  rw [e, txt_cons, txt_cons, txt_append, txt_one]
  simp only [List.append_assoc]
theorem any_succ {α : Type} {p : α → Bool} {l : List α} {k : Nat} {d : α} (h : l[k]? = some d) : (l.take (k + 1)).any p = ((l.take k).any p || p d) := by
  rw [List.take_add_one, h, Option.toList_some, List.any_append]
  simp
theorem txt_ge (l : List Ln) : l.length ≤ (txt l).length := by
  induction l with
  | nil => exact Nat.zero_le _
  | cons x l ih => rw [txt_cons]; simp only [List.length_append, List.length_cons, List.length_nil]; omega
theorem rtL_ge (rs : List (List Int)) : rs.length ≤ (txt (rtL rs)).length := by
  have := txt_ge (rtL rs)
  rwa [show (rtL rs).length = rs.length from List.length_map _] at this
theorem reqL_ge (w : ByteArray) (q : List Rq) : q.length ≤ (txt (reqL w q)).length := by
  induction q with
  | nil => exact Nat.zero_le _
  | cons x q ih => rw [reqL_cons, txt_append, reqL1, txt_cons]; simp only [List.length_append, List.length_cons, List.length_nil]; omega
end Sc
end Go.Proofs.YtcloigoajohppaaGreatDoor
/- Scenarios as data in memory. -/
namespace Go.Proofs.YtcloigoajohppaaGreatDoor
open Go.RowKit
open Av
namespace Sc
def Fw.pv (f : Fw) : List PV := [ip f.id, ip f.fr, ip f.to, ip f.pe, ip f.ph, ip f.dl]
def rsR (l : List (List Int)) : List (List PV) := l.map fun r => [PV.sl 1 (r.map fun n => [ip n])]
def Rq.pv (q : Rq) : List PV := [ip q.f.id, ip q.f.fr, ip q.f.to, ip q.f.pe, ip q.f.ph, ip q.f.dl, .sl 1 (rsR q.rs)]
def Ce.pv (c : Ce) : List PV := [ip c.sl, ip c.of, ip c.fr, ip c.to, ip c.fl]
def Ch.pv (y : Ch) : List PV := [ip y.sl, .v (.bool y.ad), ip y.c.sl, ip y.c.of, ip y.c.fr, ip y.c.to, ip y.c.fl]
def Wk.pv (y : Wk) : List PV := [ip y.fr, ip y.to, ip y.fi, ip y.un, ip y.re]
def Og.pv (y : Og) : List PV := [ip y.nd, ip y.fi, ip y.un]
def Lk.pv (y : Lk) : List PV := [ip y.fr, ip y.to, ip y.ls]
def Nt.pv (n : Nt) : List PV := [ip n.nodes, .sl 1 (rsR n.power), ip n.noise, ip n.thr, .sl 3 (n.links.map Lk.pv), .sl 1 (n.margin.map fun m => [ip m])]
def Sn.pv (x : Sn) : List PV := [ip x.net.nodes, .sl 1 (rsR x.net.power), ip x.net.noise, ip x.net.thr, .sl 3 (x.net.links.map Lk.pv), .sl 1 (x.net.margin.map fun m => [ip m]),
  .sl 7 (x.before.map Rq.pv), .sl 7 (x.after.map Rq.pv), ip x.len, ip x.offs, .sl 5 (x.cells.map Ce.pv), .sl 7 (x.changes.map Ch.pv), .sl 5 (x.weak.map Wk.pv), .sl 3 (x.outs.map Og.pv), ip x.slots]
def Lr (l : List Ln) : Prop := ∀ x ∈ l, ∀ n ∈ x.2, -9223372036854775808 ≤ n ∧ n ≤ 9223372036854775807
theorem Lr.head {x : Ln} {l : List Ln} (h : Lr (x :: l)) : ∀ n ∈ x.2, -9223372036854775808 ≤ n ∧ n ≤ 9223372036854775807 := h x (List.mem_cons_self)
theorem Lr.tail {x : Ln} {l : List Ln} (h : Lr (x :: l)) : Lr l := fun y hy => h y (List.mem_cons_of_mem _ hy)
theorem Lr.left {l m : List Ln} (h : Lr (l ++ m)) : Lr l := fun y hy => h y (List.mem_append_left _ hy)
theorem Lr.right {l m : List Ln} (h : Lr (l ++ m)) : Lr m := fun y hy => h y (List.mem_append_right _ hy)
end Sc
open Sc
section
variable {P : Program} {F : Fr}
theorem awp_cut {ι : Type} {id : Nat} {l : Array Oper} {dr : Bool} {y : Code} {Q : AX → St → Prop} {σ : St} (U : ι → St → St)
    (hx : ∀ R : St → Prop, (∀ i σ', σ'.Sub (U i σ) → R σ') → AWp P F (Code.region id l dr) (athen R Q) σ)
    (hy : ∀ i, AWp P F y Q (U i σ)) : AWp P F ((Code.region id l dr).seq y) Q σ :=
  awp_seq (hx _ fun i _ hs => awp_sub hs (hy i))
end
end Go.Proofs.YtcloigoajohppaaGreatDoor
/- Scenarios in plain Lean: room for the lines of a network. -/
namespace Go.Proofs.YtcloigoajohppaaGreatDoor
set_option linter.unusedSimpArgs false
set_option linter.unusedVariables false
namespace Sc
theorem rowL_split {a j : Nat} {row : List Int} {p : Int} (h : row[j]? = some p) : rowL a 0 row = rowL a 0 (row.take j) ++ ((if p = 0 then [] else [(wPower, [(a : Int), (j : Int), p])]) ++ rowL a (j + 1) (row.drop (j + 1))) := by
  conv => lhs; rw [split_at h]
  have hj := (List.getElem?_eq_some_iff.1 h).1
  rw [rowL_append, List.length_take, Nat.min_eq_left (Nat.le_of_lt hj), Nat.zero_add, rowL]
theorem powL_split {k : Nat} {rows : List (List Int)} {r : List Int} (h : rows[k]? = some r) : powL 0 rows = powL 0 (rows.take k) ++ (rowL k 0 r ++ powL (k + 1) (rows.drop (k + 1))) := by
  conv => lhs; rw [split_at h]
  have hj := (List.getElem?_eq_some_iff.1 h).1
  rw [powL_append, List.length_take, Nat.min_eq_left (Nat.le_of_lt hj), Nat.zero_add, powL]
theorem row_room {T : List UInt8} {a j M : Nat} {row : List Int} {p : Int} (h : row[j]? = some p) (hp : p ≠ 0) (hl : T.length + (txt (rowL a 0 row)).length ≤ M) : (T ++ txt (rowL a 0 (row.take j))).length + (lineB wPower [(a : Int), (j : Int), p]).length + 1 ≤ M := by
  rw [rowL_split h, if_neg hp, txt_append, txt_append, txt_one] at hl
  simp only [List.length_append, List.length_cons, List.length_nil] at hl ⊢
  omega
theorem row_range {a j : Nat} {row : List Int} {p : Int} (h : row[j]? = some p) (hp : p ≠ 0) (hr : Lr (rowL a 0 row)) : ∀ n ∈ [(a : Int), (j : Int), p], -9223372036854775808 ≤ n ∧ n ≤ 9223372036854775807 := by
  rw [rowL_split h, if_neg hp] at hr
  exact hr.right.left.head
theorem pow_room {T : List UInt8} {k M : Nat} {rows : List (List Int)} {r : List Int} (h : rows[k]? = some r) (hl : T.length + (txt (powL 0 rows)).length ≤ M) : (T ++ txt (powL 0 (rows.take k))).length + (txt (rowL k 0 r)).length ≤ M := by
  rw [powL_split h, txt_append, txt_append] at hl
  simp only [List.length_append] at hl ⊢
  omega
theorem pow_range {k : Nat} {rows : List (List Int)} {r : List Int} (h : rows[k]? = some r) (hr : Lr (powL 0 rows)) : Lr (rowL k 0 r) := by
  rw [powL_split h] at hr
  exact hr.right.left
def lkL (x : Lk × Int) : Ln := (wLink, [x.1.fr, x.1.to, x.1.ls, x.2])
theorem map_room {α : Type} {f : α → Ln} {T : List UInt8} {k M : Nat} {l : List α} {x : α} (h : l[k]? = some x) (hl : T.length + (txt (l.map f)).length ≤ M) : (T ++ txt ((l.take k).map f)).length + (lineB (f x).1 (f x).2).length + 1 ≤ M := by
  rw [split_at h, List.map_append, List.map_cons, txt_append, txt_cons] at hl
  simp only [List.length_append, List.length_cons, List.length_nil] at hl ⊢
  omega
theorem map_range {α : Type} {f : α → Ln} {k : Nat} {l : List α} {x : α} (h : l[k]? = some x) (hr : Lr (l.map f)) : ∀ n ∈ (f x).2, -9223372036854775808 ≤ n ∧ n ≤ 9223372036854775807 := by
  rw [split_at h, List.map_append, List.map_cons] at hr
  exact hr.right.head
theorem map_txt_succ {α : Type} {f : α → Ln} {k : Nat} {l : List α} {x : α} (h : l[k]? = some x) : txt ((l.take (k + 1)).map f) = txt ((l.take k).map f) ++ (lineB (f x).1 (f x).2 ++ [10]) := by
  rw [map_take_succ h, txt_append, txt_one]
theorem map_far_succ {α : Type} {f : α → Ln} {k : Nat} {l : List α} {x : α} (h : l[k]? = some x) : farL ((l.take (k + 1)).map f) = (farL ((l.take k).map f) || (f x).2.any farB) := by
  rw [map_take_succ h, farL_append, farL_one]
end Sc
end Go.Proofs.YtcloigoajohppaaGreatDoor
/- Scenarios in plain Lean: what Format returns. -/
namespace Go.Proofs.YtcloigoajohppaaGreatDoor
namespace Sc
def idxP {α : Type} (p : α → Bool) : List α → Int → Int
  | [], _ => -1
  | x :: l, k => if p x = true then k else idxP p l (k + 1)
theorem idx_any' {α : Type} (p : α → Bool) : ∀ (l : List α) (k : Int), 0 ≤ k → decide (idxP p l k ≥ 0) = l.any p
  | [], k, _ => by simp [idxP]
  | x :: l, k, hk => by
    unfold idxP
    cases h : p x with
    | true => simp [h, hk]
    | false => simp only [h, Bool.false_eq_true, if_false, List.any_cons, Bool.false_or]; exact idx_any' p l (k + 1) (by omega)
theorem idx_any {α : Type} (p : α → Bool) (l : List α) : decide (idxP p l 0 ≥ 0) = l.any p := idx_any' p l 0 (Int.le_refl _)
theorem drop_of_get {α : Type} {l : List α} {k : Nat} {y : α} (h : l[k]? = some y) : l.drop k = y :: l.drop (k + 1) := by
  obtain ⟨hk, rfl⟩ := List.getElem?_eq_some_iff.1 h
  rw [List.getElem_cons_drop]
def shaped (n : Nt) : Bool := !(decide (n.nodes < 0) || decide (n.nodes > 32) || ((n.power.length : Int) != n.nodes) || ((n.links.length : Int) != (n.margin.length : Int)) || decide ((n.links.length : Int) > 1024)) && !(n.power.any fun r => ((r.length : Int) != n.nodes))
def longX (x : Sn) : Bool := decide (max (max (max (x.cells.length : Int) x.changes.length) x.weak.length) x.outs.length > 1024)
def badB (x : Sn) : Bool := farL (netL x.net) || qsBad x.before || qsBad x.after || farL (tailL x)
def fmt (x : Sn) : ByteArray × Int := if (!shaped x.net || longX x || badB x) = true then (⟨#[]⟩, 1) else (⟨(txt (linesOf x)).toArray⟩, 0)
end Sc
end Go.Proofs.YtcloigoajohppaaGreatDoor
/- A builder's block is made: a box by hand. -/
namespace Go.Proofs.YtcloigoajohppaaGreatDoor
open Go.RowKit
namespace Av
section
variable {P : Program} {n d : Nat} {σ : St} {o : Oper} {K : St → Prop}
theorem hand_boxBld {T : TypeId} (u8 : TypeId) {x : Operand} {rest : List Value} (ho : o.op = .box T x) (hd : o.dst = some d) (hdn : d < n) (hx : evo (look σ.slot) x = some (.agg ((.pointer none :: .slice none 0 0 :: rest).map PV.v)))
    (h : ∀ b, K (({ σ with ext := σ.ext.and (bldE T u8 b false rest [] (.slice none 0 0)) } : St).put d (.v (.pointer (some ⟨b, 0, none⟩))))) : Hand P n σ o K := by
  refine hand_value hd hdn fun F γ a w _ hr => ⟨.v (.pointer (some ⟨w.heap.size, 0, none⟩)), .pointer (some ⟨w.heap.size, 0, none⟩), w.alloc (.cells (.pointer none :: .slice none 0 0 :: rest).toArray T), _, ?_, Turn.more (fun b hb => (hr.extf b hb).2.1) hr.exth ?_, rfl, (fun k hk => by cases hk), h _⟩
  · have e2 := eval_aggv hr hx
    simp [execOp, ho, e2, Instr.box, newVar, newRow, run_newObj_alloc, Value.cells]
  · have hb : Below w.heap.size w (w.alloc (.cells (.pointer none :: .slice none 0 0 :: rest).toArray T)) := (Below.refl _ w).alloc (Nat.le_refl _) _
    refine Turn.below hb ⟨heap_alloc_new w _, World.ownsRow_nil _ _ _ _, by simp [Value.ownBlock]⟩ (fun y hy => ?_) (fun y hy => hy.elim)
    right
    rcases hy with rfl | hy
    · simp
    · simp [Value.ownBlock] at hy
def mx (u v : Int) : Int := if u < v then v else u
theorem hand_max4 {x y z t : Operand} {a b c e : Int} {ats : Array TypeId} (ho : o.op = .call { callee := .builtin .max, args := #[x, y, z, t], argTypes := ats }) (hd : o.dst = some d) (hdn : d < n)
    (hx : evo (look σ.slot) x = some (.v (.int .i64 a))) (hy : evo (look σ.slot) y = some (.v (.int .i64 b))) (hz : evo (look σ.slot) z = some (.v (.int .i64 c))) (ht : evo (look σ.slot) t = some (.v (.int .i64 e)))
    (h : K (σ.put d (.v (.int .i64 (mx (mx (mx a b) c) e))))) : Hand P n σ o K := by
  refine hand_pure hd hdn (fun F γ a' w hr => ?_) h
  have e1 := eval_raw hr hx
  have e2 := eval_raw hr hy
  have e3 := eval_raw hr hz
  have e4 := eval_raw hr ht
  simp only [execOp, ho, resolve, invoke, builtin, List.map_toArray, List.map_cons, List.map_nil, e1, e2, e3, e4, mx]
  simp [Builtin.max_, Builtin.max2]
  repeat (first | rfl | split)
end
end Av
end Go.Proofs.YtcloigoajohppaaGreatDoor
/- Texts in plain Lean: the pieces of a text between separators, and the numbers of a line. -/
namespace Go.Proofs.YtcloigoajohppaaGreatDoor
set_option linter.unusedSimpArgs false
set_option linter.unusedVariables false
namespace Sc
def splitC (c : UInt8) : List UInt8 → List (List UInt8)
  | [] => [[]]
  | b :: l => if b = c then [] :: splitC c l else ((b :: (splitC c l).headD []) :: (splitC c l).tail)
theorem splitC_ne (c : UInt8) : ∀ l, splitC c l ≠ []
  | [] => by simp [splitC]
  | b :: l => by unfold splitC; split <;> simp
theorem splitC_one {c : UInt8} : ∀ {l : List UInt8}, c ∉ l → splitC c l = [l]
  | [], _ => rfl
  | b :: l, h => by
    have h1 : b ≠ c := fun e => h (by rw [e]; exact List.mem_cons_self)
    unfold splitC
    rw [if_neg h1, splitC_one (fun e => h (List.mem_cons_of_mem _ e))]
    rfl
theorem splitC_cons {c : UInt8} : ∀ {l : List UInt8} (r : List UInt8), c ∉ l → splitC c (l ++ c :: r) = l :: splitC c r
  | [], r, _ => by
    show splitC c (c :: r) = _
    rw [splitC, if_pos rfl]
  | b :: l, r, h => by
    have h1 : b ≠ c := fun e => h (by rw [e]; exact List.mem_cons_self)
    rw [List.cons_append, splitC, if_neg h1, splitC_cons r (fun e => h (List.mem_cons_of_mem _ e))]
    rfl
theorem split_cases (c : UInt8) (l : List UInt8) : c ∉ l ∨ ∃ a r, l = a ++ c :: r ∧ c ∉ a := by
  by_cases h : c ∈ l
  · obtain ⟨a, r, h1, h2⟩ := List.eq_append_cons_of_mem h
    exact .inr ⟨a, r, h1, h2⟩
  · exact .inl h
theorem indexByte_miss {c : UInt8} : ∀ {l : List UInt8}, c ∉ l → Lib.indexByte l c = -1
  | [], _ => rfl
  | b :: l, h => by
    have h1 : (b == c) = false := beq_eq_false_iff_ne.2 fun e => h (by rw [e]; exact List.mem_cons_self)
    unfold Lib.indexByte
    rw [h1, indexByte_miss (fun e => h (List.mem_cons_of_mem _ e))]
    rfl
theorem indexByte_hit {c : UInt8} : ∀ {l : List UInt8} (r : List UInt8), c ∉ l → Lib.indexByte (l ++ c :: r) c = l.length
  | [], r, _ => by
    show Lib.indexByte (c :: r) c = _
    unfold Lib.indexByte
    simp
  | b :: l, r, h => by
    have h1 : (b == c) = false := beq_eq_false_iff_ne.2 fun e => h (by rw [e]; exact List.mem_cons_self)
    rw [List.cons_append]
    unfold Lib.indexByte
    rw [h1, indexByte_hit r (fun e => h (List.mem_cons_of_mem _ e)), List.length_cons]
    have h2 : ((l.length : Int) == -1) = false := beq_eq_false_iff_ne.2 (by omega)
    rw [h2]
    simp
def mkB (l : List UInt8) : ByteArray := ⟨l.toArray⟩
theorem mkB_list (l : List UInt8) : (mkB l).data.toList = l := by simp [mkB]
theorem mkB_of (s : ByteArray) : mkB s.data.toList = s := by cases s; simp [mkB]
theorem mkB_size (l : List UInt8) : (mkB l).size = l.length := by simp [mkB, ByteArray.size]
theorem ext_list {s t : ByteArray} (h : s.data.toList = t.data.toList) : s = t := by
  rw [← mkB_of s, ← mkB_of t, h]
theorem size_list (s : ByteArray) : s.size = s.data.toList.length := (Array.length_toList (xs := s.data)).symm
theorem wordsL_of (sep : UInt8) : ∀ (k : Nat) (s : ByteArray), s.size ≤ k → Lib.splitB ⟨#[sep]⟩ 0 (Lib.countB s ⟨#[sep]⟩) s = (splitC sep s.data.toList).map mkB := fun k => by
  induction k with
  | zero =>
    intro s hs
    have h0 : s.data.toList = [] := List.eq_nil_of_length_eq_zero (by rw [← size_list]; omega)
    have hi : Lib.indexB s ⟨#[sep]⟩ = -1 := by
      show Lib.index _ [sep] = -1
      rw [Lib.index_one, h0]
      rfl
    rw [Lib.countB_miss _ _ hi, Lib.splitB_zero, h0]
    show [s] = [mkB []]
    rw [← mkB_of s, h0]
  | succ k ih =>
    intro s hs
    rcases split_cases sep s.data.toList with h | ⟨a, r, he, h⟩
    · have hi : Lib.indexB s ⟨#[sep]⟩ = -1 := by
        show Lib.index _ [sep] = -1
        rw [Lib.index_one, indexByte_miss h]
      rw [Lib.countB_miss _ _ hi, Lib.splitB_zero, splitC_one h, List.map_cons, List.map_nil, mkB_of]
    · have hi : Lib.indexB s ⟨#[sep]⟩ = (a.length : Nat) := by
        show Lib.index _ [sep] = _
        rw [Lib.index_one, he, indexByte_hit r h]
      have hsz := size_list s
      rw [he] at hsz
      simp only [List.length_append, List.length_cons] at hsz
      rw [Lib.countB_hit _ _ _ (show 1 ≤ (⟨#[sep]⟩ : ByteArray).size from Nat.le_refl 1) hi, Nat.add_comm 1, Lib.splitB_hit _ _ _ _ _ hi]
      show s.extract 0 (a.length + 0) :: Lib.splitB ⟨#[sep]⟩ 0 (Lib.countB (s.extract (a.length + 1) s.size) ⟨#[sep]⟩) (s.extract (a.length + 1) s.size) = _
      rw [ih _ (by rw [ByteArray.size_extract]; omega)]
      have e1 : (s.extract (a.length + 1) s.size).data.toList = r := by
        rw [Lib.extract_to_end, he, List.drop_append]
        simp
      have e2 : s.extract 0 (a.length + 0) = mkB a := ext_list (by rw [Lib.extract_from_zero, he, mkB_list]; simp)
      rw [e1, e2, he, splitC_cons r h, List.map_cons]

/-! Numbers -/
theorem digitVal_dig {d : Nat} (h : d < 10) : Lib.digitVal (UInt8.ofNat (48 + d)) = some d := by
  have e : (UInt8.ofNat (48 + d)).toNat = 48 + d := by
    rw [UInt8.toNat_ofNat']
    exact Nat.mod_eq_of_lt (by omega)
  unfold Lib.digitVal
  rw [e, if_pos (by omega)]
  congr 1
  omega
theorem decFrom_append : ∀ (a b : List UInt8) (acc : Nat), Lib.decFrom acc (a ++ b) = (Lib.decFrom acc a).bind fun m => Lib.decFrom m b
  | [], b, acc => rfl
  | x :: a, b, acc => by
    rw [List.cons_append]
    show (match Lib.digitVal x with | some d => Lib.decFrom (acc * 10 + d) (a ++ b) | none => none) = ((match Lib.digitVal x with | some d => Lib.decFrom (acc * 10 + d) a | none => none) : Option Nat).bind _
    cases Lib.digitVal x with
    | none => rfl
    | some d => exact decFrom_append a b (acc * 10 + d)
theorem decFrom_digits (u : Nat) : Lib.decFrom 0 (Lib.decDigits u) = some u := by
  induction u using Nat.strongRecOn with
  | ind u ih =>
    rw [Lib.decDigits]
    by_cases h : u < 10
    · rw [dif_pos h]
      simp only [Lib.decFrom, digitVal_dig h, Nat.zero_mul, Nat.zero_add]
    · rw [dif_neg h, decFrom_append, ih (u / 10) (by omega)]
      simp only [Option.bind_some, Lib.decFrom, digitVal_dig (Nat.mod_lt u (by decide : 10 > 0))]
      congr 1
      omega
theorem digits_ne (u : Nat) : Lib.decDigits u ≠ [] := by
  rw [Lib.decDigits]
  split <;> simp
theorem decNat_digits (u : Nat) : Lib.decNat (Lib.decDigits u) = some u := by
  unfold Lib.decNat
  rw [if_neg (by simpa using digits_ne u)]
  exact decFrom_digits u
theorem digits_len : ∀ (k u : Nat), u < 10 ^ (k + 1) → (Lib.decDigits u).length ≤ k + 1
  | 0, u, h => by
    rw [Lib.decDigits, dif_pos (by omega)]
    simp
  | k + 1, u, h => by
    rw [Lib.decDigits]
    split
    · simp
    · rw [List.length_append]
      have := digits_len k (u / 10) (by rw [Nat.pow_succ] at h; omega)
      simp only [List.length_cons, List.length_nil]
      omega
theorem digits_byte (u : Nat) : ∀ b ∈ Lib.decDigits u, 48 ≤ b.toNat ∧ b.toNat ≤ 57 := by
  induction u using Nat.strongRecOn with
  | ind u ih =>
    have key : ∀ d, d < 10 → 48 ≤ (UInt8.ofNat (48 + d)).toNat ∧ (UInt8.ofNat (48 + d)).toNat ≤ 57 := fun d hd => by
      have e : (UInt8.ofNat (48 + d)).toNat = 48 + d := by
        rw [UInt8.toNat_ofNat']
        exact Nat.mod_eq_of_lt (by omega)
      omega
    intro b hb
    rw [Lib.decDigits] at hb
    by_cases h : u < 10
    · rw [dif_pos h] at hb
      rw [List.mem_singleton.1 hb]
      exact key u h
    · rw [dif_neg h] at hb
      rcases List.mem_append.1 hb with hb | hb
      · exact ih (u / 10) (by omega) b hb
      · rw [List.mem_singleton.1 hb]
        exact key _ (Nat.mod_lt u (by decide))
theorem itoa_short {n : Int} (h0 : -1099511627776 ≤ n) (h1 : n ≤ 1099511627776) : (Lib.itoa n).length ≤ 14 := by
  unfold Lib.itoa
  split
  · have := digits_len 12 n.natAbs (by have : (10 : Nat) ^ 13 = 10000000000000 := by decide
                                       omega)
    simp only [List.length_cons]
    omega
  · have := digits_len 12 n.toNat (by have : (10 : Nat) ^ 13 = 10000000000000 := by decide
                                      omega)
    omega
theorem atoi_itoa (n : Int) : Lib.atoi (Lib.itoa n) = some n := by
  unfold Lib.itoa
  split
  · unfold Lib.atoi
    simp only
    rw [decNat_digits]
    simp only [beq_self_eq_true, if_true, Option.map_some]
    congr 1
    omega
  · rename_i h
    have hn := decNat_digits n.toNat
    have hb := digits_byte n.toNat
    cases hd : Lib.decDigits n.toNat with
    | nil => exact absurd hd (digits_ne _)
    | cons b r =>
      rw [hd] at hn hb
      have h1 := hb b List.mem_cons_self
      have e45 : (b == 45) = false := beq_eq_false_iff_ne.2 fun e => by subst e; exact absurd h1.1 (by decide)
      have e43 : (b == 43) = false := beq_eq_false_iff_ne.2 fun e => by subst e; exact absurd h1.1 (by decide)
      unfold Lib.atoi
      simp only [e45, e43, Bool.false_eq_true, if_false, hn, Option.map_some]
      congr 1
      omega
theorem atoiAll_itoa {n : Int} (h0 : -1099511627776 ≤ n) (h1 : n ≤ 1099511627776) : Lib.atoiAll (Lib.itoa n) = .ok n := by
  rw [Lib.atoiAll_short _ (by have := itoa_short h0 h1; omega), atoi_itoa]
  rfl
end Sc
end Go.Proofs.YtcloigoajohppaaGreatDoor
/- Abstract states: a list of rows that the frame holds alone, whose cells may be lists: append to it by hand, and its end. Generic. -/
namespace Go.Proofs.YtcloigoajohppaaGreatDoor
open Go.RowKit
namespace Av
structure RowsOK (w : World) (e : TypeId) (sz : Nat) (q : Option Nat) (V : Value) (xs : List Value) (n : Nat) : Prop where
  own : OwnV w 0 e sz n V q
  len : xs.length = n * sz
  at_ : ∀ g, q = some g → ∀ (j : Nat) (u : Value), xs[j]? = some u → w.cell? ⟨g, j, none⟩ = some u
structure RowsRd (R : Reader) (sz : Nat) (xs : List Value) (rows : List (List PV)) : Prop where
  len : ∀ (k : Nat) (row : List PV), rows[k]? = some row → row.length = sz
  rd : ∀ (k : Nat) (row : List PV) (j : Nat) (p : PV), rows[k]? = some row → row[j]? = some p → ∃ x, xs[k * sz + j]? = some x ∧ RepP R p x
def rowsE (e : TypeId) (sz : Nat) (q : Option Nat) (V : Value) (xs : List Value) (rows : List (List PV)) : Ext where
  foot b := q = some b
  froz _ := False
  holds w := RowsOK w e sz q V xs rows.length
  stable {w w'} h hw := ⟨hw.own.keep fun g hg => h g (.inl hg), hw.len, fun g hg j u hu => (World.cell?_of_block (w := w) (a := ⟨g, j, none⟩) (h g (.inl hg))).trans (hw.at_ g hg j u hu)⟩
  reads R := RowsRd R sz xs rows
  rmono h hr := ⟨hr.len, fun k row j p h1 h2 => by obtain ⟨x, h3, h4⟩ := hr.rd k row j p h1 h2; exact ⟨x, h3, h4.mono h⟩⟩
def Ext.mute (E : Ext) : Ext := { E with reads := fun _ => True, rmono := fun _ _ => trivial }
section
variable {P : Program} {F : Fr} {σ : St} {γ : Gh} {a : Act} {w w1 : World} {E : Ext}
theorem Turn.mute {A : Ext} (h : Turn A w w1 E) : Turn A w w1 E.mute := ⟨h.os, h.tape, h.output, h.size, h.block, h.holds, h.foot, h.froz, h.laid, fun _ _ => trivial, h.veil⟩
theorem Turn.mute_right {A B C : Ext} (h : Turn A w w1 (B.and C.mute)) : Turn A w w1 (B.and C).mute := ⟨h.os, h.tape, h.output, h.size, h.block, h.holds, h.foot, h.froz, h.laid, fun _ _ => trivial, h.veil⟩
theorem rdr_foot {E' : Ext} (hf : E'.foot = E.foot) (hve : E'.veil = E.veil) : rdr F.R0 F.w0.heap.size { σ with ext := E' } γ w = rdr F.R0 F.w0.heap.size { σ with ext := E } γ w := by
  have hm : ∀ p, ({ σ with ext := E' } : St).mut γ p ↔ ({ σ with ext := E } : St).mut γ p := fun p => by
    unfold St.mut
    dsimp only
    rw [hf, hve]
    constructor
    · rintro (h | ⟨L, e, sz, rows, h1, h2, h3⟩ | h)
      · exact .inl h
      · exact .inr (.inl ⟨L, e, sz, rows, h1, by cases L <;> exact h2, h3⟩)
      · exact .inr (.inr h)
    · rintro (h | ⟨L, e, sz, rows, h1, h2, h3⟩ | h)
      · exact .inl h
      · exact .inr (.inl ⟨L, e, sz, rows, h1, by cases L <;> exact h2, h3⟩)
      · exact .inr (.inr h)
  funext p
  unfold rdr
  by_cases hB : p.block < F.w0.heap.size
  · rw [if_pos hB, if_pos hB]
  · rw [if_neg hB, if_neg hB]
    by_cases h : ({ σ with ext := E } : St).mut γ p
    · rw [if_pos h, if_pos ((hm p).2 h)]
    · rw [if_neg h, if_neg (fun h' => h ((hm p).1 h'))]
theorem Rel.turnR (h : Rel F σ γ a w) (ht : Turn σ.ext w w1 E.mute) (hr : ∀ R, (∀ p v, rdr F.R0 F.w0.heap.size σ γ w p = some v → R p = some v) → σ.ext.reads R → E.reads R) : Rel F { σ with ext := E } γ a w1 := by
  have h1 := h.turn ht
  have hle := h.turn_le ht
  have he : rdr F.R0 F.w0.heap.size { σ with ext := E } γ w1 = rdr F.R0 F.w0.heap.size { σ with ext := E.mute } γ w1 := rdr_foot rfl rfl
  have h2 := hr _ hle (σ.ext.rmono hle h.extr)
  refine ⟨h1.defers, h1.size, h1.below, h1.r0, fun t x hx => ?_, fun k cs hk => ?_, h1.boxinj, fun L e sz hL => ?_, h1.rowinj, h1.rowbox, h1.exth, h1.extf, h1.small, h1.dyn, h1.laid, ?_⟩
  · rw [he]; exact h1.slots t x hx
  · rw [he]; exact h1.boxes k cs hk
  · obtain ⟨rows, v, h3, h4, h5⟩ := h1.owns L e sz hL
    exact ⟨rows, v, by cases L <;> exact h3, h4, h5⟩
  · rw [he]; exact h2
end
section
variable {P : Program} {n d : Nat} {σ : St} {o : Oper} {K : St → Prop}
theorem hand_appendRow {s x : Operand} {t e : TypeId} {i : TypeInfo} {z : Value} {E0 : Ext} {q : Option Nat} {V : Value} {xs : List Value} {rows rows2 : List (List PV)} {sz : Nat}
    (ho : o.op = .call { callee := .builtin .append, args := #[s, x], argTypes := #[t, t] }) (hd : o.dst = some d) (hdn : d < n)
    (ht : P.underlying t = some (.slice e)) (hi : P.info? e = some i) (hz : i.zero = some z) (hsz : i.size = sz) (hzs : z.cells.size = i.size) (hs0 : 0 < i.size) (hby : i.bytes ≤ 1000000)
    (hE : σ.ext = E0.and (rowsE e sz q V xs rows)) (hs : evo (look σ.slot) s = some (.v V)) (hx : evo (look σ.slot) x = some (.sl sz rows2)) (hnm : rows.length + rows2.length ≤ 100000000)
    (h : ∀ q' V' xs', K (({ σ with ext := E0.and (rowsE e sz q' V' xs' (rows ++ rows2)) } : St).put d (.v V'))) : Hand P n σ o K := by
  subst hsz
  intro F γ a w hF hr Q
  have hext := hr.exth
  rw [hE] at hext
  obtain ⟨h0, hrow, hdis⟩ := hext
  have hrd := hr.extr
  rw [hE] at hrd
  have eV : a.eval s = V := eval_raw hr hs
  obtain ⟨A2, cap2, news, e2, hc2, hl2, hsz2, hz2, h12, hA2⟩ := rows_flat hs0 (show RepP _ (.sl i.size rows2) (a.eval x) from (evo_ok hr (fun _ _ _ hy => hy) hx).1)
  obtain ⟨v, w1, q', r1, r2, r3, r4, r5, r6, r7, r8, r9, r10⟩ := run_append_av (P := P) w 0 t o.type e i z ht hi hz hzs hs0 hby V rows.length xs q hrow.own hrow.len hrow.at_ A2 rows2.length cap2 news hl2 (by
    rcases hA2 with h1 | ⟨b, off, h1, h2⟩
    · exact .inl (by rw [h1]; rfl)
    · exact .inr ⟨b, off, h1, fun j x hx => hr.cell (h2 j x hx)⟩) h12 hnm (Nat.zero_le _)
  have hlen : (rows ++ rows2).length = rows.length + rows2.length := List.length_append
  unfold Oper.wp execOp
  simp only [ho, resolve, invoke, builtin, Sem.run_bind, Sem.run_pure, Result.andThen_ok, List.map_toArray, List.map_cons, List.map_nil, eV, e2, r1]
  show ∃ σ' γ', K σ' ∧ Rel F σ' γ' (a.put o.dst v) w1
  rw [hd]
  have hturn : Turn σ.ext w w1 (E0.and (rowsE e i.size q' v (xs ++ news) (rows ++ rows2))).mute := by
    rw [hE]
    refine Turn.mute_right (Turn.right (fun b hb => (hr.extf b (by rw [hE]; exact hb.elim (fun h => .inl (.inl h)) (fun h => .inr (.inl h)))).2.1) ⟨h0, hrow, hdis⟩ ⟨r7, r8, r9, r10, fun k hk hn => r4 k hk (fun e => hn e), ⟨by rw [hlen]; exact r2, by rw [List.length_append, hrow.len, hl2, hlen, Nat.add_mul], r3⟩, fun b hb => ?_, fun b hb => hb.elim, fun _ h => h, fun _ _ => trivial, fun p h => h.elim⟩)
    · rcases r6 with r6 | r6
      · exact .inl (by show q = some b; rw [← r6]; exact hb)
      · have hb' : q' = some b := hb
        rw [r6] at hb'
        cases hb'
        have : w.heap.size < w1.heap.size := by
          have := r2
          rw [r6] at this
          exact this.lt.2
        exact .inr ⟨Nat.le_refl _, this⟩
  refine ⟨_, γ, h q' v (xs ++ news), (hr.turnR hturn fun R hR hrdR => ?_).put (by rw [hF]; exact hdn) rfl (fun k hk => by cases hk)⟩
  rw [hE] at hrdR
  refine ⟨hrdR.1, fun k row hk => ?_, fun k row j p hk hj => ?_⟩
  · rcases Nat.lt_or_ge k rows.length with hlt | hge
    · rw [List.getElem?_append_left hlt] at hk; exact hrdR.2.len k row hk
    · rw [List.getElem?_append_right hge] at hk; exact hsz2 _ row hk
  · rcases Nat.lt_or_ge k rows.length with hlt | hge
    · rw [List.getElem?_append_left hlt] at hk
      obtain ⟨x, hx, h1⟩ := hrdR.2.rd k row j p hk hj
      exact ⟨x, by rw [List.getElem?_append_left (List.getElem?_eq_some_iff.1 hx).1]; exact hx, h1⟩
    · rw [List.getElem?_append_right hge] at hk
      obtain ⟨x, hx, h1⟩ := hz2 _ row j p hk hj
      refine ⟨x, ?_, h1.mono hR⟩
      have hge2 : xs.length ≤ k * i.size + j := by
        rw [hrow.len]
        have := Nat.mul_le_mul_right i.size hge
        omega
      rw [List.getElem?_append_right hge2, hrow.len]
      rw [show k * i.size + j - rows.length * i.size = (k - rows.length) * i.size + j by
        rw [Nat.sub_mul]
        have := Nat.mul_le_mul_right i.size hge
        omega]
      exact hx
def infoB (P : Program) (e : TypeId) (sz : Nat) : Bool :=
  match P.info? e with
  | some i => match i.zero with
    | some z => decide (i.size = sz) && decide (z.cells.size = i.size) && decide (0 < i.size) && decide (i.bytes ≤ 1000000)
    | none => false
  | none => false
theorem hand_appendB {s x : Operand} {t e : TypeId} {E0 : Ext} {q : Option Nat} {V : Value} {xs : List Value} {rows rows2 : List (List PV)} {sz : Nat}
    (ho : o.op = .call { callee := .builtin .append, args := #[s, x], argTypes := #[t, t] }) (hd : o.dst = some d) (hdn : d < n) (ht : P.underlying t = some (.slice e)) (hi : infoB P e sz = true)
    (hE : σ.ext = E0.and (rowsE e sz q V xs rows)) (hs : evo (look σ.slot) s = some (.v V)) (hx : evo (look σ.slot) x = some (.sl sz rows2)) (hnm : rows.length + rows2.length ≤ 100000000)
    (h : ∀ q' V' xs', K (({ σ with ext := E0.and (rowsE e sz q' V' xs' (rows ++ rows2)) } : St).put d (.v V'))) : Hand P n σ o K := by
  unfold infoB at hi
  cases h1 : P.info? e with
  | none => rw [h1] at hi; cases hi
  | some i =>
    rw [h1] at hi
    dsimp only at hi
    cases h2 : i.zero with
    | none => rw [h2] at hi; cases hi
    | some z =>
      rw [h2] at hi
      simp only [Bool.and_eq_true, decide_eq_true_eq] at hi
      obtain ⟨⟨⟨h3, h4⟩, h5⟩, h6⟩ := hi
      exact hand_appendRow ho hd hdn ht h1 h2 h3 h4 h5 h6 hE hs hx hnm h
theorem awp_rowsNil {F : Fr} {cd : Code} {Q : AX → St → Prop} (e : TypeId) (sz : Nat) (h : AWp P F cd Q { σ with ext := σ.ext.and (rowsE e sz none (.slice none 0 0) [] []) }) : AWp P F cd Q σ := fun γ a w hr => by
  have hk : ∀ {Q1 : Prop} {g : Nat}, (none : Option Nat) = some g → Q1 := fun h => by cases h
  have hd : (rowsE e sz none (.slice none 0 0) [] []).holds w := ⟨⟨rfl, rfl⟩, by simp, fun g hg => hk hg⟩
  have ht : Turn σ.ext w w (σ.ext.and (rowsE e sz none (.slice none 0 0) [] [])).mute :=
    Turn.mute_right (Turn.more (fun b hb => (hr.extf b hb).2.1) hr.exth (Turn.same (E0 := Ext.nil) (E := (rowsE e sz none (.slice none 0 0) [] []).mute) hd (fun b hb => hk (show (none : Option Nat) = some b from hb)) (fun b hb => hb.elim)))
  exact h γ a w (hr.turnR ht fun R _ hrd => ⟨hrd, fun k row hk' => by simp at hk', fun k row j p hk' => by simp at hk'⟩)
theorem awp_rows {F : Fr} {cd : Code} {Q : AX → St → Prop} {t : Nat} {e : TypeId} {sz : Nat} {q : Option Nat} {V : Value} {xs : List Value} {rows : List (List PV)} {E0 : Ext} (hE : σ.ext = E0.and (rowsE e sz q V xs rows)) (ht : look σ.slot t = some (.v V)) (htn : t < F.n)
    (h : AWp P F cd Q (({ σ with ext := E0 } : St).put t (.sl sz rows))) : AWp P F cd Q σ := fun γ a w hr => by
  have hext := hr.exth
  rw [hE] at hext
  obtain ⟨h0, hrow, hdis⟩ := hext
  have hrd := hr.extr
  rw [hE] at hrd
  have hfoot : ∀ b, q = some b → F.w0.heap.size ≤ b ∧ b < w.heap.size ∧ (∀ k, (look σ.box k).isSome → γ.bx k ≠ b) ∧ (∀ L, (lookL σ.own L).isSome → γ.rw L ≠ some b) := fun b hb => hr.extf b (.inl (by rw [hE]; exact .inr hb))
  have hE0 : ∀ b, q = some b → ¬ E0.foot b := fun b hb hf => hdis b (.inl hf) (.inl hb)
  have ht1 : Turn σ.ext w w E0 := Turn.same h0 (fun b hb => by rw [hE]; exact .inl hb) (fun b hb => by rw [hE]; exact .inr (.inl hb)) (fun w0 h => by rw [hE] at h; exact h.1) (fun R h => by rw [hE] at h; exact h.1) (fun p h => .inl (by rw [hE]; exact .inl h))
  have hr1 := hr.turn ht1
  have hle := hr.turn_le ht1
  have hv : a.tmps.getD t undef = V := (hr.slots t _ ht).1
  have hread : ∀ g, q = some g → ∀ (j : Nat) (u : Value), xs[j]? = some u → rdr F.R0 F.w0.heap.size { σ with ext := E0 } γ w ⟨g, j, none⟩ = some u := fun g hg j u hu => by
    obtain ⟨f1, f2, f3, f4⟩ := hfoot g hg
    unfold rdr
    rw [if_neg (by show ¬ g < _; omega), if_neg]
    · exact hrow.at_ g hg j u hu
    · rintro (⟨k, cs, hk, hpk⟩ | ⟨L, e', sz', rows', q1, q2, q3, q4⟩ | (hx | hx))
      · exact f3 k (by rw [show look σ.box k = some cs from hk]; rfl) hpk.symm
      · exact f4 L (by rw [show lookL σ.own L = some _ from q1]; rfl) q3
      · exact hE0 g hg hx
      · exact hdis g (.inr (E0.veilz _ hx)) (.inl hg)
  have hrep : RepP (rdr F.R0 F.w0.heap.size { σ with ext := E0 } γ w) (.sl sz rows) V := by
    have hz : ∀ (k : Nat) (row : List PV) (j : Nat) (p : PV), rows[k]? = some row → row[j]? = some p → ∃ x, xs[k * sz + j]? = some x ∧ RepP (rdr F.R0 F.w0.heap.size { σ with ext := E0 } γ w) p x := fun k row j p h1 h2 => by
      obtain ⟨x, h3, h4⟩ := hrd.2.rd k row j p h1 h2
      exact ⟨x, h3, h4.mono hle⟩
    have ho := hrow.own
    cases q with
    | none =>
      obtain ⟨h1, h2⟩ := ho
      have hn : rows = [] := List.eq_nil_of_length_eq_zero h2
      subst hn
      rw [h1]
      exact rep_mk (R := rdr F.R0 F.w0.heap.size { σ with ext := E0 } γ w) (A := none) (cap := 0) (zs := xs) hrd.2.len hz (.inl rfl) (Nat.le_refl _)
    | some g =>
      obtain ⟨cap, cur, h1, _, _, h2, _⟩ := ho
      rw [h1]
      exact rep_mk (zs := xs) hrd.2.len hz (.inr ⟨g, 0, rfl, fun i x hx _ => by rw [Nat.zero_add]; exact hread g rfl i x hx⟩) h2
  have hp := hr1.put (d := t) htn (x := .sl sz rows) (u := V) hrep (fun k hk => by cases hk)
  have ha : a.put (some t) V = a := by
    rw [← hv]
    exact put_same (by rw [hr.size]; exact htn)
  rw [ha] at hp
  exact h γ a w hp
end
end Av
end Go.Proofs.YtcloigoajohppaaGreatDoor
/- What else a frame holds as a list of pieces: one of them is read, changed, lent. Generic. -/
namespace Go.Proofs.YtcloigoajohppaaGreatDoor
open Go.RowKit
namespace Av
def rawU (b : Nat) (vals : List Value) : Ext where
  foot y := y = b
  froz _ := False
  holds w := ∃ T, w.heap[b]? = some (.cells vals.toArray T (0, 0))
  stable {w w'} h hw := by obtain ⟨T, hw⟩ := hw; exact ⟨T, (h b (.inl rfl)).trans hw⟩
structure EqE (E E' : Ext) : Prop where
  foot : ∀ b, E.foot b ↔ E'.foot b
  froz : ∀ b, E.froz b ↔ E'.froz b
  holds : ∀ w, E.holds w ↔ E'.holds w
  laid : ∀ w, E.laid w ↔ E'.laid w
  reads : ∀ R, E.reads R ↔ E'.reads R
  veil : ∀ p, E.veil p ↔ E'.veil p
section
variable {A B C A' B' : Ext}
theorem EqE.refl (E : Ext) : EqE E E := ⟨fun _ => Iff.rfl, fun _ => Iff.rfl, fun _ => Iff.rfl, fun _ => Iff.rfl, fun _ => Iff.rfl, fun _ => Iff.rfl⟩
theorem EqE.symm (h : EqE A B) : EqE B A := ⟨fun b => (h.foot b).symm, fun b => (h.froz b).symm, fun b => (h.holds b).symm, fun b => (h.laid b).symm, fun b => (h.reads b).symm, fun b => (h.veil b).symm⟩
theorem EqE.trans (h : EqE A B) (g : EqE B C) : EqE A C := ⟨fun b => (h.foot b).trans (g.foot b), fun b => (h.froz b).trans (g.froz b), fun b => (h.holds b).trans (g.holds b), fun b => (h.laid b).trans (g.laid b), fun b => (h.reads b).trans (g.reads b), fun b => (h.veil b).trans (g.veil b)⟩
theorem EqE.all (h : EqE A B) (b : Nat) : A.all b ↔ B.all b := or_congr (h.foot b) (h.froz b)
theorem EqE.congr (h : EqE A A') (g : EqE B B') : EqE (A.and B) (A'.and B') :=
  ⟨fun b => or_congr (h.foot b) (g.foot b), fun b => or_congr (h.froz b) (g.froz b), fun w => and_congr (h.holds w) (and_congr (g.holds w) (forall_congr' fun b => by rw [h.all b, g.all b])),
    fun w => and_congr (h.laid w) (g.laid w), fun w => and_congr (h.reads w) (g.reads w), fun w => or_congr (h.veil w) (g.veil w)⟩
theorem EqE.comm (A B : Ext) : EqE (A.and B) (B.and A) :=
  ⟨fun _ => Or.comm, fun _ => Or.comm, fun _ => ⟨fun ⟨h1, h2, h3⟩ => ⟨h2, h1, fun b hb ha => h3 b ha hb⟩, fun ⟨h1, h2, h3⟩ => ⟨h2, h1, fun b hb ha => h3 b ha hb⟩⟩, fun _ => And.comm, fun _ => And.comm, fun _ => Or.comm⟩
theorem all_and (b : Nat) : (A.and B).all b ↔ A.all b ∨ B.all b := by
  constructor
  · rintro ((h | h) | (h | h))
    · exact .inl (.inl h)
    · exact .inr (.inl h)
    · exact .inl (.inr h)
    · exact .inr (.inr h)
  · rintro ((h | h) | (h | h))
    · exact .inl (.inl h)
    · exact .inr (.inl h)
    · exact .inl (.inr h)
    · exact .inr (.inr h)
theorem EqE.assoc (A B C : Ext) : EqE ((A.and B).and C) (A.and (B.and C)) := by
  refine ⟨fun _ => or_assoc, fun _ => or_assoc, fun w => ⟨?_, ?_⟩, fun _ => and_assoc, fun _ => and_assoc, fun _ => or_assoc⟩
  · rintro ⟨⟨h1, h2, h3⟩, h4, h5⟩
    exact ⟨h1, ⟨h2, h4, fun b hb hc => h5 b ((all_and b).2 (.inr hb)) hc⟩, fun b ha hbc => ((all_and b).1 hbc).elim (h3 b ha) (h5 b ((all_and b).2 (.inl ha)))⟩
  · rintro ⟨h1, ⟨h2, h4, h5⟩, h3⟩
    exact ⟨⟨h1, h2, fun b ha hb => h3 b ha ((all_and b).2 (.inl hb))⟩, h4, fun b hab hc => ((all_and b).1 hab).elim (fun ha => h3 b ha ((all_and b).2 (.inr hc))) (fun hb => h5 b hb hc)⟩
theorem EqE.nil_right (A : Ext) : EqE (A.and Ext.nil) A :=
  ⟨fun _ => ⟨fun h => h.elim id (fun h => h.elim), .inl⟩, fun _ => ⟨fun h => h.elim id (fun h => h.elim), .inl⟩, fun _ => ⟨fun h => h.1, fun h => ⟨h, trivial, fun b _ hb => hb.elim (fun h => h.elim) (fun h => h.elim)⟩⟩, fun _ => ⟨fun h => h.1, fun h => ⟨h, trivial⟩⟩, fun _ => ⟨fun h => h.1, fun h => ⟨h, trivial⟩⟩, fun _ => ⟨fun h => h.elim id (fun h => h.elim), .inl⟩⟩
end
def exts : List Ext → Ext
  | [] => Ext.nil
  | E :: l => (exts l).and E
theorem EqE.perm {l l' : List Ext} (h : l.Perm l') : EqE (exts l) (exts l') := by
  induction h with
  | nil => exact EqE.refl _
  | cons x _ ih => exact ih.congr (EqE.refl _)
  | swap x y l => exact (EqE.assoc _ _ _).trans (((EqE.refl _).congr (EqE.comm _ _)).trans (EqE.assoc _ _ _).symm)
  | trans _ _ h1 h2 => exact h1.trans h2
theorem EqE.app : ∀ (l l' : List Ext), EqE (exts (l ++ l')) ((exts l').and (exts l))
  | [], l' => (EqE.nil_right _).symm
  | E :: l, l' => ((EqE.app l l').congr (EqE.refl E)).trans (EqE.assoc _ _ _)
theorem EqE.foc {l l1 l2 : List Ext} (h : l.Perm (l2 ++ l1)) (E : Ext) : EqE (E.and (exts l)) ((E.and (exts l1)).and (exts l2)) :=
  ((EqE.refl E).congr ((EqE.perm h).trans (EqE.app l2 l1))).trans (EqE.assoc _ _ _).symm
theorem exts_get : ∀ {l : List Ext} {i : Nat} {X : Ext} {w : World}, (exts l).holds w → l[i]? = some X → X.holds w
  | [], _, _, _, _, h => by simp at h
  | E :: l, 0, X, w, hh, h => by simp at h; subst h; exact hh.2.1
  | E :: l, i + 1, X, w, hh, h => exts_get (l := l) (i := i) hh.1 (by simpa using h)
theorem Turn.set : ∀ {l : List Ext} {i : Nat} {X X' : Ext} {w w1 : World}, (∀ b, (exts l).all b → b < w.heap.size) → (exts l).holds w → l[i]? = some X → Turn X w w1 X' → Turn (exts l) w w1 (exts (l.set i X'))
  | [], _, _, _, _, _, _, _, h, _ => by simp at h
  | E :: l, 0, X, X', w, w1, hl, hh, h, ht => by
    simp at h
    subst h
    exact Turn.right (fun b hb => hl b ((all_and b).2 (.inl hb))) hh ht
  | E :: l, i + 1, X, X', w, w1, hl, hh, h, ht =>
    Turn.left (fun b hb => hl b ((all_and b).2 (.inr hb))) hh (Turn.set (l := l) (fun b hb => hl b ((all_and b).2 (.inl hb))) hh.1 (by simpa using h) ht)
theorem perm_one {α : Type} {l : List α} {i : Nat} {X : α} (h : l[i]? = some X) : ∃ r, l.Perm (X :: r) ∧ ∀ X', (l.set i X').Perm (X' :: r) := by
  obtain ⟨hi, rfl⟩ := List.getElem?_eq_some_iff.1 h
  refine ⟨l.take i ++ l.drop (i + 1), ?_, fun X' => ?_⟩
  · conv => lhs; rw [← List.take_append_drop i l, ← List.getElem_cons_drop hi]
    exact List.perm_middle
  · rw [List.set_eq_take_append_cons_drop, if_pos hi]
    exact List.perm_middle
theorem perm_two {α : Type} {l : List α} {i j : Nat} {X Y : α} (hi : l[i]? = some X) (hj : l[j]? = some Y) (hne : i ≠ j) : ∃ r, l.Perm (X :: Y :: r) ∧ ∀ X' Y', ((l.set i X').set j Y').Perm (X' :: Y' :: r) := by
  have key : ∀ {i j : Nat} {X Y : α}, l[i]? = some X → l[j]? = some Y → i < j → ∃ r, l.Perm (X :: Y :: r) ∧ ∀ X' Y', ((l.set i X').set j Y').Perm (X' :: Y' :: r) := by
    intro i j X Y hi hj hlt
    obtain ⟨h1, rfl⟩ := List.getElem?_eq_some_iff.1 hi
    have hj' : (l.drop (i + 1))[j - (i + 1)]? = some Y := by rw [List.getElem?_drop, show i + 1 + (j - (i + 1)) = j by omega]; exact hj
    obtain ⟨r, hr1, hr2⟩ := perm_one hj'
    have e1 : l = l.take i ++ l[i] :: l.drop (i + 1) := by rw [List.getElem_cons_drop, List.take_append_drop]
    refine ⟨l.take i ++ r, ?_, fun X' Y' => ?_⟩
    · have h2 : l.Perm (l[i] :: (l.take i ++ l.drop (i + 1))) := by
        conv => lhs; rw [e1]
        exact List.perm_middle
      refine h2.trans (.cons _ ?_)
      exact (List.Perm.append_left _ hr1).trans List.perm_middle
    · have e2 : (l.set i X').set j Y' = l.take i ++ X' :: (l.drop (i + 1)).set (j - (i + 1)) Y' := by
        have e3 : l.set i X' = l.take i ++ X' :: l.drop (i + 1) := by rw [List.set_eq_take_append_cons_drop, if_pos h1]
        rw [e3, List.set_append_right _ _ (by rw [List.length_take]; omega), List.length_take, Nat.min_eq_left (Nat.le_of_lt h1)]
        rw [show j - i = (j - (i + 1)) + 1 by omega]
        rfl
      rw [e2]
      refine List.perm_middle.trans (.cons _ ?_)
      exact (List.Perm.append_left _ (hr2 Y')).trans List.perm_middle
  rcases Nat.lt_or_gt_of_ne hne with h | h
  · exact key hi hj h
  · obtain ⟨r, h1, h2⟩ := key hj hi h
    refine ⟨r, h1.trans (.swap _ _ _), fun X' Y' => ?_⟩
    rw [List.set_comm _ _ hne]
    exact (h2 Y' X').trans (.swap _ _ _)
section
variable {P : Program} {F : Fr} {σ : St} {γ : Gh} {a : Act} {w : World} {E E' : Ext}
theorem Rel.eqE (h : Rel F σ γ a w) (he : EqE σ.ext E') : Rel F { σ with ext := E' } γ a w :=
  h.turn (Turn.same ((he.holds w).1 h.exth) (fun b hb => (he.foot b).2 hb) (fun b hb => .inr ((he.froz b).2 hb)) (fun w0 hl => (he.laid w0).1 hl) (fun R hr => (he.reads R).1 hr) (fun p hp => .inl ((he.veil p).2 hp)))
theorem awp_eqE {c : Code} {Q : AX → St → Prop} (he : EqE σ.ext E') (h : AWp P F c Q { σ with ext := E' }) : AWp P F c Q σ := fun γ a w hr => h γ a w (hr.eqE he)
variable {n d : Nat} {o : Oper} {K : St → Prop}
theorem hand_eqE (he : EqE σ.ext E') (h : Hand P n { σ with ext := E' } o K) : Hand P n σ o K := fun F γ a w hF hr Q => h F γ a w hF (hr.eqE he) Q
theorem hand_post {K' : St → Prop} (h : Hand P n σ o K') (hk : ∀ σ', K' σ' → ∃ E'', EqE σ'.ext E'' ∧ K { σ' with ext := E'' }) : Hand P n σ o K := fun F γ a w hF hr Q =>
  Oper.wp_mono (fun a' w' ⟨σ', γ', h1, h2⟩ => by
    obtain ⟨E'', he, hK⟩ := hk σ' h1
    exact ⟨_, γ', hK, h2.eqE he⟩) (h F γ a w hF hr Q)
theorem hand_postR {K' : St → Prop} (h : Hand P n σ o K') (hk : ∀ (F : Fr) (γ : Gh) (a : Act) (w : World) σ', Rel F σ' γ a w → K' σ' → ∃ E'', EqE σ'.ext E'' ∧ K { σ' with ext := E'' }) : Hand P n σ o K := fun F γ a w hF hr Q =>
  Oper.wp_mono (fun a' w' ⟨σ', γ', h1, h2⟩ => by
    obtain ⟨E'', he, hK⟩ := hk F γ' a' w' σ' h2 h1
    exact ⟨_, γ', hK, h2.eqE he⟩) (h F γ a w hF hr Q)
theorem ownV_cell {w : World} {B : Nat} {e : TypeId} {sz m : Nat} {v : Value} {q : Option Nat} (h : OwnV w B e sz m v q) : v.cells = #[v] ∧ v.oneCell' = true := by
  cases q with
  | none => obtain ⟨rfl, _⟩ := h; exact ⟨rfl, rfl⟩
  | some g => obtain ⟨cap, cur, rfl, _⟩ := h; exact ⟨rfl, rfl⟩
theorem hand_call2 {ι : Type} {X Y : Ext} {X' Y' : ι → Ext} {l : List Ext} {i j : Nat} {fid : FuncId} {args : Array Operand} {ats : Array TypeId} {avs : List AV} {C : World → Prop} {res : AV} (hc : FnX P C fid avs (exts [X, Y]) res (fun k => exts [X' k, Y' k])) (E : Ext) (hE : σ.ext = E.and (exts l)) (hi : l[i]? = some X) (hj : l[j]? = some Y) (hne : i ≠ j) (hC : ∀ w0, E.laid w0 → C w0)
    (ho : o.op = .call { callee := .value (.func fid), args := args, argTypes := ats }) (hd : o.dst = some d) (hdn : d < n) (hA : evos (look σ.slot) args.toList = some avs) (hp : (avs.all fun x => x.refs.isEmpty) = true)
    (h : ∀ k, K (({ σ with ext := E.and (exts ((l.set i (X' k)).set j (Y' k))) } : St).put d res)) : Hand P n σ o K := by
  obtain ⟨r, h1, h2⟩ := perm_two hi hj hne
  have he : EqE σ.ext ((E.and (exts r)).and (exts [X, Y])) := by rw [hE]; exact EqE.foc (l2 := [X, Y]) h1 E
  refine hand_eqE he (hand_post (K' := fun σ' => ∃ k, σ' = (({ σ with ext := (E.and (exts r)).and (exts [X' k, Y' k]) } : St).put d res)) ?_ ?_)
  · exact hand_callX hc (E.and (exts r)) rfl (fun w0 hl => hC w0 hl.1) ho hd hdn hA hp fun k => ⟨k, rfl⟩
  · rintro σ' ⟨k, rfl⟩
    exact ⟨E.and (exts ((l.set i (X' k)).set j (Y' k))), (EqE.foc (l2 := [X' k, Y' k]) (h2 (X' k) (Y' k)) E).symm, h k⟩
theorem Rel.piece {l : List Ext} (hr : Rel F σ γ a w) (hE : σ.ext = E.and (exts l)) {i : Nat} {X : Ext} (hi : l[i]? = some X) : X.holds w := by
  have h := hr.exth
  rw [hE] at h
  exact exts_get h.2.1 hi
theorem turn_piece {w1 : World} {l : List Ext} {i : Nat} {X X' : Ext} (hr : Rel F σ γ a w) (hE : σ.ext = E.and (exts l)) (hi : l[i]? = some X) (ht : Turn X w w1 X') : Turn σ.ext w w1 (E.and (exts (l.set i X'))) := by
  have h := hr.exth
  rw [hE] at h ⊢
  have hlt : ∀ b, σ.ext.all b → b < w.heap.size := fun b hb => (hr.extf b hb).2.1
  rw [hE] at hlt
  exact Turn.right (fun b hb => hlt b ((all_and b).2 (.inl hb))) h (Turn.set (fun b hb => hlt b ((all_and b).2 (.inr hb))) h.2.1 hi ht)
theorem hand_eLoad {Tv : TypeId} {x : Operand} {b k i : Nat} {vals : List Value} {v : Value} {l : List Ext} {dd : TypeDesc} (ho : o.op = .load Tv x) (hd : o.dst = some d) (hdn : d < n) (hE : σ.ext = E.and (exts l)) (hi : l[i]? = some (rawU b vals))
    (hx : evo (look σ.slot) x = some (.v (.pointer (some ⟨b, k, none⟩)))) (hv : vals[k]? = some v) (hu : P.underlying Tv = some dd) (hdd : dd.isRow = false) (h : K (σ.put d (.v v))) : Hand P n σ o K := by
  refine hand_pure hd hdn (fun F γ a w hr => ?_) h
  have e := eval_raw hr hx
  obtain ⟨T, hb⟩ : ∃ T, w.heap[b]? = some (.cells vals.toArray T (0, 0)) := hr.piece hE hi
  have hc : w.cell? ⟨b, k, none⟩ = some v := by
    rw [cell_of_row w _ _ _ T (0, 0) hb]
    simp [hv]
  simp [execOp, ho, e, run_load_one (P := P) w b k Tv dd v hc hu hdd]
theorem hand_eStore {Tv : TypeId} {x y : Operand} {b k i : Nat} {vals : List Value} {u : Value} {l : List Ext} (ho : o.op = .store Tv x y) (hd : o.dst = none) (hE : σ.ext = E.and (exts l)) (hi : l[i]? = some (rawU b vals))
    (hx : evo (look σ.slot) x = some (.v (.pointer (some ⟨b, k, none⟩)))) (hy : evo (look σ.slot) y = some (.v u)) (hk : k < vals.length) (hc1 : u.cells = #[u]) (ho1 : u.oneCell' = true) (hn : (P.info? Tv).map (·.size) = some 1)
    (h : K { σ with ext := E.and (exts (l.set i (rawU b (vals.set k u)))) }) : Hand P n σ o K := by
  refine hand_skip hd fun F γ a w hF hr => ?_
  have e1 := eval_raw hr hx
  have e2 := eval_raw hr hy
  obtain ⟨T, hb⟩ : ∃ T, w.heap[b]? = some (.cells vals.toArray T (0, 0)) := hr.piece hE hi
  obtain ⟨j, hj, hs⟩ := info_some hn
  have hst := run_storeCells_cells (P := P) b k [u] 0 w (fun j hj => by
      rw [cell_of_row w _ _ _ T (0, 0) hb]
      simp at hj
      subst hj
      simp [hk]) (fun j hj => by
      unfold World.frozen?
      rw [show (⟨b, k + 0 + j, none⟩ : Addr).block = b from rfl, hb]
      simp) (by simpa using ho1)
  simp only [Nat.add_zero] at hst
  have hw : w.setCells b k [u] = w.setCell ⟨b, k, none⟩ u := rfl
  rw [hw] at hst
  have hg := Lib.grownBy_setCell w b k u
  refine ⟨w.setCell ⟨b, k, none⟩ u, _, ?_, turn_piece (X' := rawU b (vals.set k u)) hr hE hi (Turn.grown hg rfl ?_ (fun _ h => h) (fun _ h => .inr h)), h⟩
  · simp [execOp, ho, e1, e2, Instr.storeAt, Instr.sureAddr, storeVar, sizeOf, typeInfo, hj, hs, hc1, hst]
  · refine ⟨T, ?_⟩
    show (w.setCell ⟨b, k, none⟩ u).heap[b]? = _
    simp [World.setCell, Array.getElem?_modify, hb]
theorem hand_eLen {x : Operand} {t et : TypeId} {e : TypeId} {sz i : Nat} {q : Option Nat} {V : Value} {xs : List Value} {rows : List (List PV)} {l : List Ext} (ho : o.op = .call { callee := .builtin .len, args := #[x], argTypes := #[t] }) (hd : o.dst = some d) (hdn : d < n) (ht : P.underlying t = some (.slice et)) (hE : σ.ext = E.and (exts l)) (hi : l[i]? = some (rowsE e sz q V xs rows))
    (hx : evo (look σ.slot) x = some (.v V)) (h : K (σ.put d (.v (.int .i64 rows.length)))) : Hand P n σ o K := by
  refine hand_pure hd hdn (fun F γ a w hr => ?_) h
  have e1 := eval_raw hr hx
  have hrow : RowsOK w e sz q V xs rows.length := hr.piece hE hi
  have ho2 := hrow.own
  cases q with
  | none =>
    obtain ⟨h1, h2⟩ := ho2
    subst h1
    simp only [execOp, ho, resolve, invoke, builtin, List.map_toArray, List.map_cons, List.map_nil, e1]
    simp [Builtin.len_, h2, run_underlying ht, goInt]
  | some g =>
    obtain ⟨cap, cur, h1, _⟩ := ho2
    subst h1
    simp only [execOp, ho, resolve, invoke, builtin, List.map_toArray, List.map_cons, List.map_nil, e1]
    simp [Builtin.len_, run_underlying ht, goInt]
theorem hand_eApp {s x : Operand} {t e : TypeId} {i : Nat} {q : Option Nat} {V : Value} {xs : List Value} {rows rows2 : List (List PV)} {sz : Nat} {l : List Ext}
    (ho : o.op = .call { callee := .builtin .append, args := #[s, x], argTypes := #[t, t] }) (hd : o.dst = some d) (hdn : d < n) (ht : P.underlying t = some (.slice e)) (hinf : infoB P e sz = true)
    (hE : σ.ext = E.and (exts l)) (hi : l[i]? = some (rowsE e sz q V xs rows)) (hs : evo (look σ.slot) s = some (.v V)) (hx : evo (look σ.slot) x = some (.sl sz rows2)) (hnm : rows.length + rows2.length ≤ 100000000)
    (h : ∀ (q' : Option Nat) (V' : Value) (xs' : List Value), V'.cells = #[V'] → V'.oneCell' = true → K (({ σ with ext := E.and (exts (l.set i (rowsE e sz q' V' xs' (rows ++ rows2)))) } : St).put d (.v V'))) : Hand P n σ o K := by
  obtain ⟨r, h1, h2⟩ := perm_one hi
  have he : EqE σ.ext ((E.and (exts r)).and (rowsE e sz q V xs rows)) := by
    rw [hE]
    refine (EqE.foc (l2 := [rowsE e sz q V xs rows]) h1 E).trans ((EqE.refl _).congr ?_)
    exact (EqE.comm _ _).trans (EqE.nil_right _)
  refine hand_eqE he (hand_postR (K' := fun σ' => ∃ q' V' xs', σ' = (({ σ with ext := (E.and (exts r)).and (rowsE e sz q' V' xs' (rows ++ rows2)) } : St).put d (.v V'))) ?_ ?_)
  · exact hand_appendB ho hd hdn ht hinf rfl hs hx hnm fun q' V' xs' => ⟨q', V', xs', rfl⟩
  · rintro F γ a w σ' hr ⟨q', V', xs', rfl⟩
    have hrow : RowsOK w e sz q' V' xs' (rows ++ rows2).length := hr.exth.2.1
    obtain ⟨g1, g2⟩ := ownV_cell hrow.own
    refine ⟨E.and (exts (l.set i (rowsE e sz q' V' xs' (rows ++ rows2)))), EqE.symm ?_, h q' V' xs' g1 g2⟩
    refine (EqE.foc (l2 := [rowsE e sz q' V' xs' (rows ++ rows2)]) (h2 _) E).trans ((EqE.refl _).congr ?_)
    exact (EqE.comm _ _).trans (EqE.nil_right _)
end
theorem hand_id {P : Program} {n : Nat} {σ : St} {o : Oper} {K : St → Prop} (h : Hand P n σ o K) : Hand P n σ o K := h
theorem ex_id {α : Type} {p : α → Prop} (h : ∃ x, p x) : ∃ x, p x := h
end Av
end Go.Proofs.YtcloigoajohppaaGreatDoor
/- Regions that draw their order where some moves are waited for late: the walk with edges added. Generic. -/
namespace Go.Proofs.YtcloigoajohppaaGreatDoor
open Go.RowKit
namespace Av
section
variable {P : Program} {F : Fr}
theorem any_drawG {l : List Oper} {Q : AX → St → Prop} {σ : St} (st : List Nat) (n : Nat) (hn : n ≤ l.length) (hs : ssaB l.toArray n = true) (ht : tailB l.toArray n = true) (Tl : St → Prop)
    (hTl : ∀ (σ2 : St) (γ2 : Gh) (a2 : Act) (w2 : World), Rel F σ2 γ2 a2 w2 → Tl σ2 → wpList P l.toArray (fun e a' w' => ∃ x σ' γ', e = AX.exit_ x ∧ Q x σ' ∧ Rel F σ' γ' a' w') (l.drop n) a2 w2)
    (h : headW P F.n st l.toArray (look σ.box) (l.take n) σ [] fun σ1 sl => Tl (steals σ1 sl)) : ∀ γ a w, Rel F σ γ a w → wpAny P .any l.toArray (fun e a' w' => ∃ x σ' γ', e = AX.exit_ x ∧ Q x σ' ∧ Rel F σ' γ' a' w') l.toArray.size (Array.replicate l.toArray.size false) a w.drew := by
  intro γ a w hr
  obtain ⟨rs3, σ', sl, hrun, hK, hsl⟩ := headW_run h
  have hsz : l.toArray.size = l.length := by simp
  have hlt : (l.take n).length = n := by simp; omega
  have hlen : rs3.length = n := by rw [hrun.length, hlt]
  have hdst : ∀ {i d r S}, rs3[i]? = some (d, r, S) → i < n ∧ (l.toArray[i]?).bind (·.dst) = some d := fun {i d r S} hx => by
    obtain ⟨o, h1, h2⟩ := hrun.dst hx
    have hi : i < n := by rw [← hlen]; exact (List.getElem?_eq_some_iff.1 hx).1
    refine ⟨hi, ?_⟩
    rw [List.getElem?_take, if_pos hi] at h1
    simp [h1, h2]
  have hrs : ∀ {i : Nat} {d : Nat} {r : HR}, (rs3.map fun x => (x.1, x.2.1))[i]? = some (d, r) → ∃ S, rs3[i]? = some (d, r, S) := fun {i d r} hx => by
    rw [List.getElem?_map] at hx
    cases hq : rs3[i]? with
    | none => rw [hq] at hx; cases hx
    | some x =>
      rw [hq] at hx
      cases hx
      exact ⟨x.2.2, rfl⟩
  have hnd : ∀ (i j d : Nat) (r r' : HR), (rs3.map fun x => (x.1, x.2.1))[i]? = some (d, r) → (rs3.map fun x => (x.1, x.2.1))[j]? = some (d, r') → i = j := fun i j d r r' hi hj => by
    obtain ⟨S, hi⟩ := hrs hi
    obtain ⟨S', hj⟩ := hrs hj
    obtain ⟨h1, h2⟩ := hdst hi
    obtain ⟨h3, h4⟩ := hdst hj
    obtain ⟨o, ho, _, h5, _⟩ := ssa_spec hs h3
    refine h5 i h1 ?_
    rw [h2]
    rw [ho] at h4
    exact h4.symm
  obtain ⟨hsteps, hfin⟩ := hrun.lk (σ0 := σ) hnd 0 (by simp) ((Lk.start σ _).of_iff fun j => by simp)
  have inv0 : HeadInv .any l.toArray n (Array.replicate l.toArray.size false) :=
    ⟨by simp, fun j oj _ hl => (by rw [getD_replicate_false] at hl; cases hl), fun t _ ht => getD_in (by simpa using ht) (getD_replicate_false _ _)⟩
  have hback : ∀ i o, i < n → l.toArray[i]? = some o → ∀ e ∈ o.after, Region.binds .any e = true → e.on < i := fun i o hi ho => by
    obtain ⟨o', ho', _, _, h1⟩ := ssa_spec hs hi
    rw [ho] at ho'
    cases ho'
    exact h1
  simp only [tailB, Bool.and_eq_true, Bool.or_eq_true, decide_eq_true_eq] at ht
  obtain ⟨htail, hseq⟩ := ht
  -- what holds while the head runs
  let Inv : Array Bool → Act → World → Prop := fun listed a w => ∃ σ1 γ, Rel F σ1 γ a w ∧ Lk σ (rs3.map fun x => (x.1, x.2.1)) (fun j => j < n ∧ listed.getD j false = true) σ1 ∧
    ∀ i d r L, rs3[i]? = some (d, r, some L) → listed.getD i false = true → valAt a w γ L = none ∨ valAt a w γ (.s d) = valAt a w γ L
  have hbxk : ∀ {L : Nat → Prop} {σ1 : St} {k : Nat} {cs : List PV}, Lk σ (rs3.map fun x => (x.1, x.2.1)) L σ1 → look σ.box k = some cs → look σ1.box k = some cs := fun {L σ1 k cs} hl hk => by
    rw [hl.box k (fun j d r _ hj hb e => by
      obtain ⟨S, hj⟩ := hrs hj
      obtain ⟨o, σi, _, h1, _⟩ := hsteps j d r S hj
      have := h1.newbox hb
      rw [e, hk] at this
      cases this)]
    exact hk
  have hcnt : cntU n (Array.replicate l.toArray.size false) = n := by
    have : ∀ m, m ≤ l.length → cntU m (Array.replicate l.toArray.size false) = m := fun m => by
      induction m with
      | zero => intro _; rfl
      | succ m ih =>
        intro hm
        unfold cntU
        rw [ih (by omega)]
        simp [show m < l.length by omega]
    exact this n hn
  have goal := any_head (P := P) (Q := fun e a' w' => ∃ x σ' γ', e = AX.exit_ x ∧ Q x σ' ∧ Rel F σ' γ' a' w') (g := l.toArray.size - n) (Inv := Inv) (by rw [hsz]; exact hn) hback (by
      rcases htail with h1 | h1
      · exact .inl h1
      · exact .inr ⟨h1.1.1, h1.1.2, h1.2⟩) ?step ?fin n _ a w.drew hcnt inv0 ⟨σ, γ, hr.grow (Below.refl _ _).drew, (Lk.start σ _).of_iff fun j => ⟨fun hj => by rw [getD_replicate_false] at hj; exact absurd hj.2 (by simp), fun hj => hj.elim⟩, fun i d r L _ hl => by rw [getD_replicate_false] at hl; cases hl⟩
  · rw [show n + (l.toArray.size - n) = l.toArray.size by rw [hsz]; omega] at goal
    exact goal
  case step =>
    rintro i listed a w hi hready hinv ⟨σ1, γ1, h1, h2, h3⟩
    obtain ⟨hun, o, ho, hall⟩ := mem_ready.1 hready
    obtain ⟨o', ho', hssa, _, _⟩ := ssa_spec hs hi
    rw [ho] at ho'
    cases ho'
    have hx : ∃ x, rs3[i]? = some x := ⟨rs3[i]'(by rw [hlen]; exact hi), List.getElem?_eq_getElem _⟩
    obtain ⟨⟨d, r, S⟩, hx⟩ := hx
    obtain ⟨o', σi, h4, h5, h6⟩ := hsteps i d r S hx
    have : o' = o := by
      rw [List.getElem?_take, if_pos hi] at h4
      have h7 : l.toArray[i]? = l[i]? := by simp
      rw [h7, h4] at ho
      exact Option.some.inj ho
    subst this
    have hmap : (rs3.map fun x => (x.1, x.2.1))[i]? = some (d, r) := by rw [List.getElem?_map, hx]; rfl
    have hwait : ∀ j, Region.waitsFor .any l.toArray i j = true → listed.getD j false = true := fun j hj => by
      obtain ⟨oj, hoj, e, he, hb, hon⟩ := Region.waitsFor_spec hj
      rw [ho] at hoj
      cases hoj
      rw [← hon]
      exact hall e he hb
    have hops : ∀ t y, t ∈ o'.looksAt l.toArray → look σi.slot t = some y → look σ1.slot t = some y := fun t y htm hy => by
      by_cases hex : ∃ j d' r', j < n ∧ (rs3.map fun x => (x.1, x.2.1))[j]? = some (d', r') ∧ d' = t
      · obtain ⟨j, d', r', hj, hjx, rfl⟩ := hex
        obtain ⟨S', hjx'⟩ := hrs hjx
        obtain ⟨hji, hw⟩ := hssa d' htm j hj (hdst hjx').2
        have h7 := (h6.in_ j d' r' (by omega) hjx).1
        rw [h7] at hy
        cases hy
        exact (h2.in_ j d' r' ⟨hj, hwait j hw⟩ hjx).1
      · rw [(h6.out t fun j d' r' hj hjx e => hex ⟨j, d', r', by omega, hjx, e⟩).1] at hy
        rw [(h2.out t fun j d' r' hj hjx e => hex ⟨j, d', r', hj.1, hjx, e⟩).1]
        exact hy
    have hLi : ¬ (i < n ∧ listed.getD i false = true) := fun h => by rw [getD_both hun] at h; exact absurd h.2 (by simp)
    have hnone : look σ.box d = none → look σ1.box d = none := fun hd => by
      rw [h2.box d (fun j d' r' hj hjx _ e => by
        subst e
        have := hnd i j d' r r' hmap hjx
        subst this
        exact hLi hj)]
      exact hd
    refine wpOp_mono (fun a' w' hst => ?_) (h5.run σ1 γ1 a w h1 hops (fun k cs hk => hbxk h2 hk) hnone (h2.ext.trans h6.ext.symm) _ i ho)
    obtain ⟨γ', u, rfl, e2, e3, e4, e5⟩ := hst
    have hisz : i < listed.size := by rw [hinv.size, hsz]; omega
    have hset : ∀ j, (listed.setIfInBounds i true).getD j false = true ↔ listed.getD j false = true ∨ j = i := fun j => by
      by_cases hji : i = j
      · subst hji; simp [hisz]
      · rw [getD_set_ne false hji]; simp [show ¬ j = i from fun e => hji e.symm]
    have hd' : d < a.tmps.size := by rw [h1.size]; exact h5.lt
    refine ⟨_, γ', e4, (h2.step hnd hmap hLi).of_iff fun j => ?_, fun m dm rm L hmx hlm => ?_⟩
    · rw [hset]
      constructor
      · rintro ⟨h7, h8 | rfl⟩
        · exact .inl ⟨h7, h8⟩
        · exact .inr rfl
      · rintro (⟨h7, h8⟩ | rfl)
        · exact ⟨h7, .inl h8⟩
        · exact ⟨hi, .inr rfl⟩
    · obtain ⟨om, σm, hm1, hm2, hm3⟩ := hsteps m dm rm (some L) hmx
      obtain ⟨hav, hlooks⟩ := hm2.src_ L rfl
      -- the place's value is as it was
      have hkeep : (∀ t, L = .s t → d ≠ t) → valAt (a.put (some d) u) w' γ' L = valAt a w γ1 L := fun hne => by
        cases L with
        | s t => simp [valAt, getD_put hd', hne t rfl]
        | b k off =>
          have hk : ∃ cs, look σ.box k = some cs := by
            cases hq : look σ.box k with
            | none => simp [avOf, hq] at hav
            | some cs => exact ⟨cs, rfl⟩
          obtain ⟨cs, hk⟩ := hk
          have hk1 : (look σ1.box k).isSome := by rw [hbxk h2 hk]; rfl
          show w'.cell? ⟨γ'.bx k, off, none⟩ = w.cell? ⟨γ1.bx k, off, none⟩
          rw [e3 k hk1]
          exact e2.cell (p := ⟨γ1.bx k, off, none⟩) (h1.box_lt hk1).1
      have hmn : m < n := (hdst hmx).1
      rcases (hset m).1 hlm with hlm | rfl
      · -- m was done before
        have hdm : d ≠ dm := fun e => by
          subst e
          have := hnd i m d r rm hmap (by rw [List.getElem?_map, hmx]; rfl)
          subst this
          exact hLi ⟨hi, hlm⟩
        have hne : ∀ t, L = .s t → d ≠ t := fun t ht e => by
          subst e
          obtain ⟨om', hom', hss, _, _⟩ := ssa_spec hs hmn
          have : om' = om := by
            rw [List.getElem?_take, if_pos hmn] at hm1
            have h7 : l.toArray[m]? = l[m]? := by simp
            rw [h7, hm1] at hom'
            exact (Option.some.inj hom').symm
          subst this
          obtain ⟨_, hw⟩ := hss d (hlooks d ht) i hi (hdst hx).2
          obtain ⟨oj, hoj, e, he, hb, hon⟩ := Region.waitsFor_spec hw
          have := hinv.closed m oj hoj hlm e he hb
          rw [hon, getD_both hun] at this
          cases this
        rw [hkeep hne, show valAt (a.put (some d) u) w' γ' (.s dm) = valAt a w γ1 (.s dm) by simp [valAt, getD_put hd', hdm]]
        exact h3 m dm rm L hmx hlm
      · rw [hx] at hmx
        cases hmx
        have hne : ∀ t, L = .s t → d ≠ t := fun t ht e => by
          subst e
          obtain ⟨om', hom', hss, _, _⟩ := ssa_spec hs hmn
          have : om' = om := by
            rw [List.getElem?_take, if_pos hmn] at hm1
            have h7 : l.toArray[m]? = l[m]? := by simp
            rw [h7, hm1] at hom'
            exact (Option.some.inj hom').symm
          subst this
          exact absurd (hss d (hlooks d ht) m hmn (hdst hx).2).1 (Nat.lt_irrefl _)
        rw [hkeep hne]
        rcases e5 L rfl with h7 | h7
        · right
          rw [h7]
          simp [valAt, getD_put hd']
        · exact .inl h7
  case fin =>
    rintro listed a w hinv hdone ⟨σ1, γ1, h1, h2, h3⟩
    have hdone' : ∀ i, i < n → listed.getD i false = true := fun i hi => by
      have h4 := hdone i hi
      have hs : i < listed.size := by rw [hinv.size, hsz]; omega
      simp [hs] at h4 ⊢
      exact h4
    have hLk : Lk σ (rs3.map fun x => (x.1, x.2.1)) (· < 0 + (l.take n).length) σ1 := h2.of_iff fun j => by
      rw [hlt]
      constructor
      · intro h4; exact ⟨by omega, hdone' j (by omega)⟩
      · intro h4; omega
    obtain ⟨g1, g2, g3, g4⟩ := hLk.same hfin
    have hrel := h1.congr g1 g2 g3 g4
    have hlisted : listed = doneA n l.toArray.size := by
      apply Array.ext
      · rw [hinv.size]; simp [doneA]
      · intro i hi1 hi2
        have hil : i < l.toArray.size := by rw [← hinv.size]; exact hi1
        have : (doneA n l.toArray.size)[i] = decide (i < n) := by simp [doneA]
        rw [this]
        by_cases hin : i < n
        · have := hdone' i hin
          simp [hi1] at this
          rw [this]; simp [hin]
        · have := hinv.tail i (by omega) hil
          simp [hi1] at this
          rw [this]; simp [hin]
    obtain ⟨γ2, _, hrel2⟩ := hrel.steals sl (fun x hx => by
      rcases hsl x hx with h4 | ⟨r, h4⟩
      · cases h4
      · obtain ⟨i, hi⟩ := List.mem_iff_getElem?.1 h4
        obtain ⟨o, σi, h5, h6, h7⟩ := hsteps i _ _ _ hi
        have hin := (hdst hi).1
        refine ⟨?_, h3 i _ _ _ hi (hdone' i hin)⟩
        obtain ⟨hav, hlooks⟩ := h6.src_ x.2 rfl
        have hd1 : σ'.avAt (.s x.1) = some r.av := (hfin.in_ i x.1 r (by rw [hlt]; omega) (by rw [List.getElem?_map, hi]; rfl)).1
        rw [hd1, ← hav]
        cases hL : x.2 with
        | s t =>
          show look σi.slot t = look σ'.slot t
          obtain ⟨o', ho', hss, _, _⟩ := ssa_spec hs hin
          have : o' = o := by
            rw [List.getElem?_take, if_pos hin] at h5
            have h8 : l.toArray[i]? = l[i]? := by simp
            rw [h8, h5] at ho'
            exact (Option.some.inj ho').symm
          subst this
          by_cases hex : ∃ j d' r', j < n ∧ (rs3.map fun x => (x.1, x.2.1))[j]? = some (d', r') ∧ d' = t
          · obtain ⟨j, d', r', hj, hjx, rfl⟩ := hex
            obtain ⟨S', hjx'⟩ := hrs hjx
            obtain ⟨hji, _⟩ := hss d' (hlooks d' hL) j hj (hdst hjx').2
            rw [(h7.in_ j d' r' (by omega) hjx).1, (hfin.in_ j d' r' (by rw [hlt]; omega) hjx).1]
          · rw [(h7.out t fun j d' r' hj hjx e => hex ⟨j, d', r', by omega, hjx, e⟩).1, (hfin.out t fun j d' r' hj hjx e => hex ⟨j, d', r', by rw [hlt] at hj; omega, hjx, e⟩).1]
        | b k off =>
          show ((look σ.box k).bind (·[off]?)).map PV.av = ((look σ'.box k).bind (·[off]?)).map PV.av
          have hk : ∃ cs, look σ.box k = some cs := by
            rw [hL] at hav
            cases hq : look σ.box k with
            | none => simp [avOf, hq] at hav
            | some cs => exact ⟨cs, rfl⟩
          obtain ⟨cs, hk⟩ := hk
          rw [hbxk hfin hk, hk])
    have hwl := hTl _ γ2 a w hrel2 hK
    have hdl : (l.drop n).length = l.toArray.size - n := by simp
    have := wpAny_of_seq (md := .any) (Q' := fun e a' w' => ∃ x σ' γ', e = AX.exit_ x ∧ Q x σ' ∧ Rel F σ' γ' a' w') (ops := l.toArray) (l.drop n) n listed a w (fun j => by simp [List.getElem?_drop]) (by rw [hdl, hlisted]; exact hseq) hwl
    rwa [hdl] at this
end
def addW (l : List Oper) (m f : Nat) : List Oper := l.modify m fun o => { o with after := o.after.push ⟨f, .data⟩ }
def floatB (ops : Array Oper) (f : Nat) : Bool :=
  match ops[f]? with
  | some o => (match o.op with
    | .move _ => true
    | _ => false) && o.guard.isNone && o.after.isEmpty && o.dst.isSome && (List.range ops.size).all fun j => Nat.beq j f || (match ops[j]? with
      | some oj => oj.after.any (fun e => Region.binds .any e && e.on == f) || o.apart ops oj
      | none => true)
  | none => false
def noSel (ops : Array Oper) : Bool := ops.all fun o => match o.op with
  | .select _ _ => false
  | _ => true
section
variable {P : Program} {Q : Exit → Act → World → Prop}
theorem addW_get {l : List Oper} {m f j : Nat} : (addW l m f)[j]? = (l[j]?).map fun o => if j = m then { o with after := o.after.push ⟨f, .data⟩ } else o := by
  unfold addW
  rw [List.getElem?_modify]
  cases h : l[j]? with
  | none => simp
  | some o =>
    by_cases hj : m = j
    · subst hj; simp
    · simp only [Option.map_eq_map, Option.map_some]
      rw [if_neg hj, if_neg (fun e => hj e.symm)]
theorem addW_len {l : List Oper} {m f : Nat} : (addW l m f).length = l.length := by unfold addW; rw [List.length_modify]
theorem yielded_addW {l : List Oper} {m f : Nat} (t : Array Value) : yielded (addW l m f).toArray t = yielded l.toArray t := by
  funext j
  unfold yielded
  have : ((addW l m f).toArray[j]?).bind (·.dst) = (l.toArray[j]?).bind (·.dst) := by
    simp only [List.getElem?_toArray, addW_get]
    cases l[j]? with
    | none => rfl
    | some o =>
      simp only [Option.map_some, Option.bind_some]
      split <;> rfl
  rw [this]
theorem wpOp_addW {l : List Oper} {m f i : Nat} {K : Act → World → Prop} {a : Act} {w : World} (h : wpOp P (addW l m f).toArray Q i K a w) : wpOp P l.toArray Q i K a w := by
  unfold wpOp at h ⊢
  rw [yielded_addW] at h
  simp only [List.getElem?_toArray, addW_get] at h ⊢
  cases ho : l[i]? with
  | none => rw [ho] at h; exact h
  | some o =>
    rw [ho] at h
    simp only [Option.map_some] at h
    by_cases hi : i = m
    · rw [if_pos hi] at h; exact h
    · rw [if_neg hi] at h; exact h
theorem ready_addW {l : List Oper} {m f : Nat} {listed : Array Bool} (hf : listed.getD f false = true) : Region.ready .any (addW l m f).toArray listed = Region.ready .any l.toArray listed := by
  have key : ∀ j, j ∈ Region.ready .any (addW l m f).toArray listed ↔ j ∈ Region.ready .any l.toArray listed := fun j => by
    rw [mem_ready, mem_ready]
    refine and_congr Iff.rfl ?_
    simp only [List.getElem?_toArray, addW_get]
    constructor
    · rintro ⟨o, ho, h⟩
      obtain ⟨o0, h0, rfl⟩ := Option.map_eq_some_iff.1 ho
      refine ⟨o0, h0, fun e he hb => h e ?_ hb⟩
      split
      · simp only [Array.mem_push]; exact .inl he
      · exact he
    · rintro ⟨o, ho, h⟩
      refine ⟨_, by rw [ho]; rfl, fun e he hb => ?_⟩
      split at he
      · simp only [Array.mem_push] at he
        rcases he with he | he
        · exact h e he hb
        · subst he; exact hf
      · exact h e he hb
  unfold Region.ready at key ⊢
  have hsz : (addW l m f).toArray.size = l.toArray.size := by simp [addW_len]
  rw [hsz] at key ⊢
  refine List.filter_congr fun j hj => ?_
  have := key j
  simp only [List.mem_filter, hj, true_and] at this
  exact Bool.eq_iff_iff.2 this
theorem wpAny_addW {l : List Oper} {m f : Nat} : ∀ (n : Nat) (listed : Array Bool) (a : Act) (w : World), listed.getD f false = true → wpAny P .any (addW l m f).toArray Q n listed a w → wpAny P .any l.toArray Q n listed a w
  | 0, listed, a, w, hf, h => ⟨by rw [← ready_addW hf]; exact h.1, h.2⟩
  | n + 1, listed, a, w, hf, h => by
    refine ⟨fun h0 => h.1 (by rw [ready_addW hf]; exact h0), fun i hi => ?_⟩
    have h1 := h.2 i (by rw [ready_addW hf]; exact hi)
    refine wpOp_mono (fun a' w' hr => wpAny_addW n _ a' w' ?_ hr) (wpOp_addW h1)
    rw [Array.getD_eq_getD_getElem?, Array.getElem?_setIfInBounds]
    rw [Array.getD_eq_getD_getElem?] at hf
    split
    · rename_i he
      subst he
      split
      · rfl
      · rename_i hlt
        rw [Array.getElem?_eq_none (by omega)] at hf
        cases hf
    · exact hf
theorem wpAny_float {l : List Oper} {m f : Nat} (hfl : floatB l.toArray f = true) (hns : noSel l.toArray = true) (hmf : m ≠ f) (hQ : ∀ c a w, ¬ Q (.panic c) a w) {a : Act} {w : World} (h : wpAny P .any (addW l m f).toArray Q l.toArray.size (Array.replicate l.toArray.size false) a w) : wpAny P .any l.toArray Q l.toArray.size (Array.replicate l.toArray.size false) a w := by
  unfold floatB at hfl
  cases ho : l.toArray[f]? with
  | none => rw [ho] at hfl; cases hfl
  | some o =>
    rw [ho] at hfl
    simp only [Bool.and_eq_true] at hfl
    obtain ⟨⟨⟨⟨h1, h2⟩, h3⟩, h4⟩, h5⟩ := hfl
    have hlt : f < l.toArray.size := (Array.getElem?_eq_some_iff.1 ho).1
    have hlt2 : f < l.length := by simpa using hlt
    obtain ⟨n, hn⟩ : ∃ n, l.toArray.size = n + 1 := ⟨l.toArray.size - 1, by omega⟩
    have hready : ∀ {ops : Array Oper} {o' : Oper}, ops[f]? = some o' → o'.after = #[] → f ∈ Region.ready .any ops (Array.replicate l.toArray.size false) := fun {ops o'} h hao => by
      refine mem_ready.2 ⟨by simp [Array.getD_eq_getD_getElem?, Array.getElem?_replicate, hlt2], o', h, fun e he _ => ?_⟩
      rw [hao] at he
      simp at he
    have hao : o.after = #[] := by simpa using h3
    have hgo : o.guard = none := by simpa using h2
    obtain ⟨x, hx⟩ : ∃ x, o.op = .move x := by
      cases hop : o.op <;> rw [hop] at h1 <;> first | exact ⟨_, rfl⟩ | cases h1
    have hrun : ∀ w, (execOp a.eval o).run P w = .ok (.value (a.eval x)) w := fun w => by simp [execOp, hx]
    have hw : ∀ {ops : Array Oper}, Region.wanted o (yielded ops a.tmps) = true := fun {ops} => by unfold Region.wanted; rw [hgo]
    have hres : wpAny P .any (addW l m f).toArray Q n ((Array.replicate l.toArray.size false).setIfInBounds f true) (a.put o.dst (a.eval x)) w := by
      have ho' : (addW l m f).toArray[f]? = some o := by
        simp only [List.getElem?_toArray, addW_get] at ho ⊢
        rw [ho, Option.map_some, if_neg (fun e => hmf e.symm)]
      rw [hn] at h
      have h6 := h.2 f (by rw [← hn]; exact hready ho' hao)
      unfold wpOp at h6
      rw [ho'] at h6
      dsimp only at h6
      rw [if_pos hw] at h6
      rcases h6 with h6 | ⟨h6, _⟩
      · unfold Oper.wp at h6
        rw [hrun] at h6
        rw [hn]
        exact h6
      · have he : ((execOp a.eval o).runT P w #[]).2 = #[] := by unfold execOp; rw [hx]; rfl
        exact absurd h6 (by unfold Oper.asks; rw [he]; simp)
    have h7 := wpAny_addW n _ _ w (by simp [Array.getD_eq_getD_getElem?, hlt2]) hres
    rw [hn]
    rw [hn] at h7
    refine wpAny_first ho (fun j oj cs b hj hs => ?_) (fun c a w h => absurd h (hQ _ _ _)) n _ a w (fun j oj hj hne _ hno => ?_) (by rw [← hn]; exact hready ho hao) (.inl ⟨hw, hrun⟩) h7
    · have := Array.all_eq_true.1 hns j (Array.getElem?_eq_some_iff.1 hj).1
      rw [(Array.getElem?_eq_some_iff.1 hj).2, hs] at this
      cases this
    · have h8 := List.all_eq_true.1 h5 j (List.mem_range.2 (Array.getElem?_eq_some_iff.1 hj).1)
      rw [hj] at h8
      simp only [Bool.or_eq_true] at h8
      rcases h8 with h8 | h8 | h8
      · exact absurd (Nat.eq_of_beq_eq_true h8) hne
      · obtain ⟨k, hk, he⟩ := Array.any_eq_true.1 h8
        simp only [Bool.and_eq_true, beq_iff_eq] at he
        exact absurd he.2 (hno _ (Array.getElem_mem hk) he.1)
      · exact h8
def addWs : List Oper → List (Nat × Nat) → List Oper
  | l, [] => l
  | l, (m, f) :: fs => addWs (addW l m f) fs
def floatsB : List Oper → List (Nat × Nat) → Bool
  | _, [] => true
  | l, (m, f) :: fs => floatB l.toArray f && noSel l.toArray && !Nat.beq m f && floatsB (addW l m f) fs
theorem wpAny_floats (hQ : ∀ c a w, ¬ Q (.panic c) a w) : ∀ {fs : List (Nat × Nat)} {l : List Oper} {a : Act} {w : World}, floatsB l fs = true → wpAny P .any (addWs l fs).toArray Q l.toArray.size (Array.replicate l.toArray.size false) a w → wpAny P .any l.toArray Q l.toArray.size (Array.replicate l.toArray.size false) a w
  | [], _, _, _, _, h => h
  | (m, f) :: fs, l, a, w, hc, h => by
    unfold floatsB at hc
    simp only [Bool.and_eq_true, Bool.not_eq_true'] at hc
    obtain ⟨⟨⟨h1, h2⟩, h3⟩, h4⟩ := hc
    have hsz : (addW l m f).toArray.size = l.toArray.size := by simp [addW_len]
    refine wpAny_float (m := m) h1 h2 (fun e => ?_) hQ ?_
    · subst e; rw [Nat.beq_refl] at h3; cases h3
    · have := wpAny_floats hQ (fs := fs) (l := addW l m f) (a := a) (w := w) h4 (by rw [hsz]; exact h)
      rwa [hsz] at this
theorem addWs_len : ∀ {fs : List (Nat × Nat)} {l : List Oper}, (addWs l fs).length = l.length
  | [], _ => rfl
  | (m, f) :: fs, l => by unfold addWs; rw [addWs_len, addW_len]
theorem awp_floatJ {F : Fr} {id : Nat} {l l1 l2 : List Oper} {Q : AX → St → Prop} {σ : St} (st : List Nat) (n : Nat) (fs : List (Nat × Nat)) (hm : P.follows .mixedOrders = true) (hf : floatsB l fs = true) (hc : (decide (n ≤ (addWs l fs).length) && ssaB (addWs l fs).toArray n && tailB (addWs l fs).toArray n) = true) (h1 : (addWs l fs).take n = l1) (h2 : (addWs l fs).drop n = l2)
    (h : ∀ bx0 : Nat → Option (List PV), bx0 = look σ.box → headW P F.n st (addWs l fs).toArray bx0 l1 σ [] fun σ1 sl => sopsJ P F.n st (addWs l fs).toArray l2 (steals σ1 sl) (Q .normal)) : AWp P F (Code.region id l.toArray true) Q σ := by
  intro γ a w hr
  refine wp_region_any hm ?_
  simp only [Bool.and_eq_true, decide_eq_true_eq] at hc
  subst h1
  subst h2
  have := any_drawG (P := P) (F := F) (Q := Q) (σ := σ) st n hc.1.1 hc.1.2 hc.2 (fun σ => sopsJ P F.n st (addWs l fs).toArray ((addWs l fs).drop n) σ (Q .normal))
    (fun σ2 γ2 a2 w2 hrel2 hK => sopsJ_ok (P := P) (F := F) (Q := fun e a' w' => ∃ x σ' γ', e = AX.exit_ x ∧ Q x σ' ∧ Rel F σ' γ' a' w') (fun σ'' γ'' a'' w'' hq hr'' => ⟨.normal, σ'', γ'', rfl, hq, hr''⟩) ((addWs l fs).drop n) _ γ2 a2 w2 hrel2 hK) (h _ rfl) γ a w hr
  have hsz : (addWs l fs).toArray.size = l.toArray.size := by simp [addWs_len]
  rw [hsz] at this
  refine wpAny_floats (fun c a w => ?_) hf this
  rintro ⟨x, _, _, h, _⟩
  cases x <;> cases h
end
end Av
end Go.Proofs.YtcloigoajohppaaGreatDoor
/- Pieces in a drawn head. Generic. -/
namespace Go.Proofs.YtcloigoajohppaaGreatDoor
open Go.RowKit
namespace Av
section
variable {P : Program} {n d : Nat} {σ : St} {o : Oper} {E : Ext}
theorem handq_eLoad {bx0 : Nat → Option (List PV)} {Tv : TypeId} {x : Operand} {b k i : Nat} {vals : List Value} {v : Value} {l : List Ext} {dd : TypeDesc} (ho : o.op = .load Tv x) (hd : o.dst = some d) (hdn : d < n) (hE : σ.ext = E.and (exts l)) (hi : l[i]? = some (rawU b vals))
    (hx : evo (look σ.slot) x = some (.v (.pointer (some ⟨b, k, none⟩)))) (hv : vals[k]? = some v) (hu : P.underlying Tv = some dd) (hdd : dd.isRow = false) : HandQ P n bx0 σ o d ⟨.v v, none, none⟩ := by
  intro F σ1 γ a w hF hr hops hb hext Q
  have e := eval_raw hr (evo_ops hops (x := x) (by rw [ho]; simp [Op.operands]) hx)
  refine pure_ok hr hd (by rw [hF]; exact hdn) (u := v) ?_ rfl (fun j hj => by cases hj)
  obtain ⟨T, hbk⟩ : ∃ T, w.heap[b]? = some (.cells vals.toArray T (0, 0)) := hr.piece (hext.trans hE) hi
  have hc : w.cell? ⟨b, k, none⟩ = some v := by
    rw [cell_of_row w _ _ _ T (0, 0) hbk]
    simp [hv]
  simp [execOp, ho, e, run_load_one (P := P) w b k Tv dd v hc hu hdd]
theorem row_cell {F : Fr} {γ : Gh} {a : Act} {w : World} (hr : Rel F σ γ a w) {l : List Ext} {i sz g j : Nat} {e : TypeId} {V v : Value} {xs : List Value} {rows : List (List PV)} (hE : σ.ext = E.and (exts l)) (hi : l[i]? = some (rowsE e sz (some g) V xs rows)) (hv : xs[j]? = some v) : w.cell? ⟨g, j, none⟩ = some v := by
  have h : RowsOK w e sz (some g) V xs rows.length := hr.piece hE hi
  exact h.at_ g rfl j v hv
variable {K : St → Prop}
theorem hand_rLoad {Tv : TypeId} {x : Operand} {l : List Ext} {i sz g j : Nat} {e : TypeId} {V v : Value} {xs : List Value} {rows : List (List PV)} {dd : TypeDesc} (ho : o.op = .load Tv x) (hd : o.dst = some d) (hdn : d < n) (hE : σ.ext = E.and (exts l)) (hi : l[i]? = some (rowsE e sz (some g) V xs rows))
    (hx : evo (look σ.slot) x = some (.v (.pointer (some ⟨g, j, none⟩)))) (hv : xs[j]? = some v) (hu : P.underlying Tv = some dd) (hdd : dd.isRow = false) (h : K (σ.put d (.v v))) : Hand P n σ o K := by
  refine hand_pure hd hdn (fun F γ a w hr => ?_) h
  have e1 := eval_raw hr hx
  simp [execOp, ho, e1, run_load_one (P := P) w g j Tv dd v (row_cell hr hE hi hv) hu hdd]
theorem handq_rLoad {bx0 : Nat → Option (List PV)} {Tv : TypeId} {x : Operand} {l : List Ext} {i sz g j : Nat} {e : TypeId} {V v : Value} {xs : List Value} {rows : List (List PV)} {dd : TypeDesc} (ho : o.op = .load Tv x) (hd : o.dst = some d) (hdn : d < n) (hE : σ.ext = E.and (exts l)) (hi : l[i]? = some (rowsE e sz (some g) V xs rows))
    (hx : evo (look σ.slot) x = some (.v (.pointer (some ⟨g, j, none⟩)))) (hv : xs[j]? = some v) (hu : P.underlying Tv = some dd) (hdd : dd.isRow = false) : HandQ P n bx0 σ o d ⟨.v v, none, none⟩ := by
  intro F σ1 γ a w hF hr hops hb hext Q
  have e1 := eval_raw hr (evo_ops hops (x := x) (by rw [ho]; simp [Op.operands]) hx)
  refine pure_ok hr hd (by rw [hF]; exact hdn) (u := v) ?_ rfl (fun j hj => by cases hj)
  simp [execOp, ho, e1, run_load_one (P := P) w g j Tv dd v (row_cell hr (hext.trans hE) hi hv) hu hdd]
theorem hand_rStore {Tv : TypeId} {x y : Operand} {l : List Ext} {i sz g k c : Nat} {e : TypeId} {V u : Value} {xs : List Value} {rows : List (List PV)} {row : List PV} (ho : o.op = .store Tv x y) (hd : o.dst = none) (hE : σ.ext = E.and (exts l)) (hi : l[i]? = some (rowsE e sz (some g) V xs rows))
    (hx : evo (look σ.slot) x = some (.v (.pointer (some ⟨g, k * sz + c, none⟩)))) (hy : evo (look σ.slot) y = some (.v u)) (hk : rows[k]? = some row) (hc : c < sz) (hc1 : u.cells = #[u]) (ho1 : u.oneCell' = true) (hn : (P.info? Tv).map (·.size) = some 1)
    (h : K { σ with ext := E.and (exts (l.set i (rowsE e sz (some g) V (xs.set (k * sz + c) u) (rows.set k (row.set c (.v u)))))) }) : Hand P n σ o K := by
  refine hand_skip hd fun F γ a w hF hr => ?_
  have e1 := eval_raw hr hx
  have e2 := eval_raw hr hy
  have hrow : RowsOK w e sz (some g) V xs rows.length := hr.piece hE hi
  obtain ⟨cap, cur, hV, _, hg, hnc, hcm, hcs⟩ := hrow.own
  have hkl := (List.getElem?_eq_some_iff.1 hk).1
  have hmul : (k + 1) * sz ≤ rows.length * sz := Nat.mul_le_mul_right _ hkl
  have hmul2 : rows.length * sz ≤ cap * sz := Nat.mul_le_mul_right _ hnc
  rw [Nat.succ_mul] at hmul
  have hlt : k * sz + c < cur.size := by omega
  have hxl : k * sz + c < xs.length := by rw [hrow.len]; omega
  obtain ⟨j, hj, hs⟩ := info_some hn
  have hst := run_storeCells_cells (P := P) g (k * sz + c) [u] 0 w (fun j hj => by
      rw [cell_of_row w _ _ _ e (0, 0) hg]
      simp at hj
      subst hj
      simp [hlt]) (fun j hj => by
      unfold World.frozen?
      rw [show (⟨g, k * sz + c + 0 + j, none⟩ : Addr).block = g from rfl, hg]
      simp) (by simpa using ho1)
  simp only [Nat.add_zero] at hst
  have hw : w.setCells g (k * sz + c) [u] = w.setCell ⟨g, k * sz + c, none⟩ u := rfl
  rw [hw] at hst
  have hgr := Lib.grownBy_setCell w g (k * sz + c) u
  have hh1 : (w.setCell ⟨g, k * sz + c, none⟩ u).heap[g]? = some (.cells (cur.setIfInBounds (k * sz + c) u) e (0, 0)) := by
    simp [World.setCell, Array.getElem?_modify, hg]
  have hrun : (execOp a.eval o).run P w = .ok .skip (w.setCell ⟨g, k * sz + c, none⟩ u) := by
    simp [execOp, ho, e1, e2, Instr.storeAt, Instr.sureAddr, storeVar, sizeOf, typeInfo, hj, hs, hc1, hst]
  have hnew : RowsOK (w.setCell ⟨g, k * sz + c, none⟩ u) e sz (some g) V (xs.set (k * sz + c) u) (rows.set k (row.set c (.v u))).length := by
    refine ⟨?_, by rw [List.length_set, List.length_set]; exact hrow.len, fun g' hg' j y hy => ?_⟩
    · rw [List.length_set]
      exact ⟨cap, _, hV, Nat.zero_le _, hh1, hnc, hcm, by simpa using hcs⟩
    · cases hg'
      rw [cell_of_row _ _ _ _ e (0, 0) hh1]
      by_cases hjk : k * sz + c = j
      · subst hjk
        rw [List.getElem?_set_self hxl] at hy
        simp [hlt, hy]
      · rw [List.getElem?_set_ne hjk] at hy
        have := hrow.at_ g rfl j y hy
        rw [cell_of_row w _ _ _ e (0, 0) hg] at this
        rw [Array.getElem?_setIfInBounds_ne hjk]
        exact this
  have hrd : ∀ R, (rowsE e sz (some g) V xs rows).reads R → (rowsE e sz (some g) V (xs.set (k * sz + c) u) (rows.set k (row.set c (.v u)))).reads R := fun R h => by
    have h : RowsRd R sz xs rows := h
    have hrl := h.len k row hk
    refine ⟨fun k' row' hk' => ?_, fun k' row' j p hk' hj => ?_⟩
    · by_cases e1 : k = k'
      · subst e1
        rw [List.getElem?_set_self hkl] at hk'
        cases hk'
        rw [List.length_set]; exact hrl
      · rw [List.getElem?_set_ne e1] at hk'
        exact h.len k' row' hk'
    · by_cases e1 : k = k'
      · subst e1
        rw [List.getElem?_set_self hkl] at hk'
        cases hk'
        by_cases e2 : c = j
        · subst e2
          rw [List.getElem?_set_self (by rw [hrl]; exact hc)] at hj
          cases hj
          exact ⟨u, by rw [List.getElem?_set_self hxl], .v _ ho1⟩
        · rw [List.getElem?_set_ne e2] at hj
          obtain ⟨x, h1, h2⟩ := h.rd k row j p hk hj
          exact ⟨x, by rw [List.getElem?_set_ne (by omega)]; exact h1, h2⟩
      · rw [List.getElem?_set_ne e1] at hk'
        obtain ⟨x, h1, h2⟩ := h.rd k' row' j p hk' hj
        have hjl : j < sz := by
          have := (List.getElem?_eq_some_iff.1 hj).1
          rw [h.len k' row' hk'] at this
          exact this
        refine ⟨x, ?_, h2⟩
        rw [List.getElem?_set_ne]
        · exact h1
        · intro he
          rcases Nat.lt_or_gt_of_ne e1 with hlt' | hlt'
          · have h3 : (k + 1) * sz ≤ k' * sz := Nat.mul_le_mul_right _ hlt'
            rw [Nat.succ_mul] at h3
            omega
          · have h3 : (k' + 1) * sz ≤ k * sz := Nat.mul_le_mul_right _ hlt'
            rw [Nat.succ_mul] at h3
            omega
  exact ⟨_, _, hrun, turn_piece (X' := rowsE e sz (some g) V (xs.set (k * sz + c) u) (rows.set k (row.set c (.v u)))) hr hE hi (Turn.grown hgr rfl hnew (fun _ h => h) (fun _ h => .inr h) (fun _ _ => trivial) hrd), h⟩
end
end Av
end Go.Proofs.YtcloigoajohppaaGreatDoor
/- Sizes and zero values of types. -/
namespace Go.Proofs.YtcloigoajohppaaGreatDoor
open Go.RowKit
open Av
set_option maxRecDepth 100000
set_option linter.unusedSimpArgs false
theorem Tryz.sz92 : (Tryz.prog.info? 92).map (·.size) = some 1 := by kernel_rfl
theorem Tryz.sz131 : (Tryz.prog.info? 131).map (·.size) = some 1 := by kernel_rfl
theorem Tryz.sz134 : (Tryz.prog.info? 134).map (·.size) = some 3 := by kernel_rfl
theorem Tryz.zr134 : (Tryz.prog.info? 134).map (·.zero) = some (some (.agg #[.int .i64 0, .int .i64 0, .nilFunc])) := by kernel_rfl
end Go.Proofs.YtcloigoajohppaaGreatDoor
/- Regions that draw their order: plain operations are taken first, the others come in the text's order. Generic. -/
namespace Go.Proofs.YtcloigoajohppaaGreatDoor
open Go.RowKit
namespace Av
section
variable {P : Program} {ops : Array Oper} {Q : Exit → Act → World → Prop} {L : World → World → Prop} {G : Nat → World → World → Prop}
structure Pre (L : World → World → Prop) : Prop where
  refl : ∀ w, L w w
  trans : ∀ {u v w}, L u v → L v w → L u w
def YieldsL (P : Program) (ops : Array Oper) (L : World → World → Prop) (o : Oper) (v : Value) (a : Act) (w : World) : Prop :=
  Region.wanted o (yielded ops a.tmps) = true ∧ ∀ w', L w w' → (execOp a.eval o).run P w' = .ok (.value v) w'
theorem YieldsL.wpOp (hL : Pre L) {i : Nat} {o : Oper} {v : Value} {a : Act} {w : World} (hi : ops[i]? = some o) (hy : YieldsL P ops L o v a w) {K : Act → World → Prop} (h : K (a.put o.dst v) w) : wpOp P ops Q i K a w := by
  unfold Go.wpOp
  simp only [hi]
  obtain ⟨hw, hv⟩ := hy
  simp only [hw, if_true, Oper.wp, hv w (hL.refl _), Oper.upon]; exact .inl h
theorem YieldsL.of_same (hL : Pre L) {o : Oper} {v : Value} {a a' : Act} {w w' : World} (hy : YieldsL P ops L o v a w) (he : execOp a'.eval o = execOp a.eval o)
    (hw : Region.wanted o (yielded ops a'.tmps) = Region.wanted o (yielded ops a.tmps)) (hb : L w w') : YieldsL P ops L o v a' w' :=
  ⟨by rw [hw]; exact hy.1, fun w'' hb' => by rw [he]; exact hy.2 w'' (hL.trans hb hb')⟩
theorem anyL_put (hL : Pre L) {M : World → World → Prop} {j : Nat} {oi oj : Oper} {v : Value} (hM : ∀ w w', M w w' → L w w') (hj : ops[j]? = some oj) (hap : oi.apart ops oj = true)
    (hsi : ∀ cs b, oi.op ≠ .select cs b) (hsj : ∀ cs b, oj.op ≠ .select cs b)
    (hQ : ∀ c a w, Q (.panic c) (a.put oi.dst v) w → Q (.panic c) a w) {K : Act → World → Prop} {a : Act} {w : World}
    (hy : YieldsL P ops L oi v a w) (h : wpOp P ops Q j (fun a' w' => M w w' ∧ K a' w') (a.put oi.dst v) w) :
    wpOp P ops Q j (fun a' w' => M w w' ∧ YieldsL P ops L oi v a' w' ∧ K (a'.put oi.dst v) w') a w := by
  obtain ⟨h1, h2, h3⟩ := Oper.apart_spec hap
  have keep : ∀ (a : Act) (w w' : World), M w w' → YieldsL P ops L oi v a w → ∀ u, YieldsL P ops L oi v (a.put oj.dst u) w' := fun a w w' hb hy u =>
    hy.of_same hL (execOp_put oi hsi a oj.dst u h3) (wanted_put oi a oj.dst u h3) (hM _ _ hb)
  have keepD : ∀ d, YieldsL P ops L oi v { a with defers := d :: a.defers } w := fun d => hy.of_same hL rfl rfl (hL.refl _)
  unfold wpOp at *
  simp only [hj] at *
  rw [wanted_put oj a oi.dst v h1] at h
  split
  · rename_i hw
    simp only [hw, if_true] at h
    rcases h with h | ⟨hasks, hlets⟩
    case inr => exact .inr ⟨by unfold Oper.asks at *; rw [execOp_put oj hsj a oi.dst v h1] at hasks; exact hasks, hlets⟩
    refine .inl ?_
    unfold Oper.wp at *
    rw [execOp_put oj hsj a oi.dst v h1] at h
    generalize (execOp a.eval oj).run P w = r at *
    cases r with
    | ok n w' =>
      cases n <;> simp only [Oper.upon] at h ⊢
      case value u => exact ⟨h.1, keep a w _ h.1 hy u, by rw [← Act.put_comm a v u h2]; exact h.2⟩
      case skip => exact ⟨h.1, keep a w _ h.1 hy _, by rw [← Act.put_comm a v undef h2]; exact h.2⟩
      case defer d =>
        refine ⟨h.1, keep _ w _ h.1 (keepD d) _, ?_⟩
        rw [← Act.put_comm _ v undef h2, ← Act.put_defers]
        exact h.2
      case enter f args =>
        refine Calls.mono h fun e w'' he => ?_
        cases e with
        | returned u => exact ⟨he.1, keep a w _ he.1 hy u, by rw [← Act.put_comm a v u h2]; exact he.2⟩
        | panicked c => exact hQ _ _ _ he
        | outgrown => exact he
      case row row args => exact Rows.mono h fun u w'' he => ⟨he.1, keep a w _ he.1 hy u, by rw [← Act.put_comm a v u h2]; exact he.2⟩
    | halt x w' =>
      cases x <;> simp only [Oper.upon] at h ⊢
      case panic u => exact hQ _ _ _ h
  · rename_i hw
    simp only [hw] at h
    exact ⟨h.1, keep a w _ h.1 hy _, by rw [← Act.put_comm a v undef h2]; exact h.2⟩
def anyG (P : Program) (ops : Array Oper) (G : Nat → World → World → Prop) (Q : Exit → Act → World → Prop) : Nat → Array Bool → Act → World → Prop
  | 0, listed, a, w => Region.ready .any ops listed = [] ∧ Q .normal a w
  | f + 1, listed, a, w => (Region.ready .any ops listed = [] → Q .normal a w) ∧ ∀ i ∈ Region.ready .any ops listed, wpOp P ops Q i (fun a' w' => G i w w' ∧ anyG P ops G Q f (listed.setIfInBounds i true) a' w') a w
theorem anyG_any : ∀ (f : Nat) (listed : Array Bool) (a : Act) (w : World), anyG P ops G Q f listed a w → wpAny P .any ops Q f listed a w
  | 0, _, _, _, h => h
  | f + 1, _, _, _, h => ⟨h.1, fun i hi => wpOp_mono (fun a' w' h' => anyG_any f _ a' w' h'.2) (h.2 i hi)⟩
theorem anyG_first (hL : Pre L) (hG : ∀ i, Pre (G i)) {i : Nat} {oi : Oper} {v : Value} (hi : ops[i]? = some oi) (hR : ∀ j oj, ops[j]? = some oj → (∀ e ∈ oj.after, Region.binds .any e = true → e.on ≠ i) → ∀ w w', G j w w' → L w w') (hsel : ∀ (j : Nat) (o : Oper) cs b, ops[j]? = some o → o.op ≠ .select cs b)
    (hQ : ∀ c a w, Q (.panic c) (a.put oi.dst v) w → Q (.panic c) a w) :
    ∀ (f : Nat) (listed : Array Bool) (a : Act) (w : World),
      (∀ j oj, ops[j]? = some oj → j ≠ i → listed.getD j true = false → (∀ e ∈ oj.after, Region.binds .any e = true → e.on ≠ i) → oi.apart ops oj = true) →
      i ∈ Region.ready .any ops listed → YieldsL P ops L oi v a w →
      anyG P ops G Q f (listed.setIfInBounds i true) (a.put oi.dst v) w → anyG P ops G Q (f + 1) listed a w := by
  intro f
  induction f with
  | zero =>
    intro listed a w _ hr hy H
    refine ⟨fun h => (by rw [h] at hr; cases hr), fun j hj => ?_⟩
    by_cases hji : j = i
    · subst hji; exact hy.wpOp hL hi ⟨(hG j).refl _, H⟩
    · have := ready_mono hj hji
      rw [H.1] at this
      cases this
  | succ f ih =>
    intro listed a w hfree hr hy H
    refine ⟨fun h => (by rw [h] at hr; cases hr), fun j hj => ?_⟩
    by_cases hji : j = i
    · subst hji; exact hy.wpOp hL hi ⟨(hG j).refl _, H⟩
    · have h1 := H.2 j (ready_mono hj hji)
      obtain ⟨hjun, oj, hoj, hall⟩ := mem_ready.1 hj
      have hnot : ∀ e ∈ oj.after, Region.binds .any e = true → e.on ≠ i := fun e he hb heq => by
        have h1 := hall e he hb
        rw [heq, getD_both (mem_ready.1 hr).1] at h1
        cases h1
      have h2 := anyL_put hL (M := G j) (hR j oj hoj hnot) hoj (hfree j oj hoj hji hjun hnot) (fun cs b => hsel i oi cs b hi) (fun cs b => hsel j oj cs b hoj) hQ hy h1
      have hfree' : ∀ k ok, ops[k]? = some ok → k ≠ i → (listed.setIfInBounds j true).getD k true = false →
          (∀ e ∈ ok.after, Region.binds .any e = true → e.on ≠ i) → oi.apart ops ok = true := fun k ok hk hki hun hno => by
        refine hfree k ok hk hki ?_ hno
        by_cases hjk : j = k
        · subst hjk; exact hjun
        · rw [getD_set_ne true hjk] at hun; exact hun
      refine wpOp_mono (fun a' w' h3 => ⟨h3.1, ih (listed.setIfInBounds j true) a' w' hfree' (ready_mono hr (Ne.symm hji)) h3.2.1 ?_⟩) h2
      rw [Array.setIfInBounds_comm _ _ hji]
      exact h3.2.2
end
def Grow (P : Program) {α : Type} : Sem α → Prop
  | .pure _ => True
  | .load _ _ k => ∀ v, Grow P (k v)
  | .new _ k => ∀ r, Grow P (k r)
  | .shape _ k => ∀ s, Grow P (k s)
  | .frozen _ k => ∀ b, Grow P (k b)
  | .getObj _ k => ∀ o, Grow P (k o)
  | .choose _ k => ∀ n, Grow P (k n)
  | .program k => Grow P (k P)
  | .mark _ k => Grow P k
  | .halt _ => True
  | _ => False
section
variable {P : Program}
theorem Grow.bind {α β : Type} {s : Sem α} {f : α → Sem β} (h : Grow P s) (hf : ∀ v, Grow P (f v)) : Grow P (s >>= f) := by
  show Grow P (s.bind f)
  induction s with
  | pure a => exact hf a
  | load m a k ih => exact fun v => ih v (h v)
  | new o k ih => exact fun v => ih v (h v)
  | shape r k ih => exact fun v => ih v (h v)
  | frozen a k ih => exact fun v => ih v (h v)
  | getObj r k ih => exact fun v => ih v (h v)
  | choose q k ih => exact fun v => ih v (h v)
  | program k ih => exact ih P h
  | mark m k ih => exact ih h
  | halt x => trivial
  | store m a v k => exact h.elim
  | freeze a n k => exact h.elim
  | setObj r o k => exact h.elim
  | sys c k => exact h.elim
theorem Grow.run {α : Type} {s : Sem α} (h : Grow P s) : ∀ {w w' : World} {v : α}, s.run P w = .ok v w' → Below w.heap.size w w' := by
  induction s with
  | pure a => intro w w' v hr; cases hr; exact Below.refl _ _
  | load m a k ih =>
    intro w w' v hr
    unfold Sem.run at hr
    split at hr
    · exact ih _ (h _) hr
    · split at hr
      · exact ih _ (h _) hr
      · cases hr
  | new o k ih =>
    intro w w' v hr
    have h1 := ih _ (h _) (w := { w with heap := w.heap.push o }) hr
    have h0 : Below w.heap.size w { w with heap := w.heap.push o } := ⟨rfl, rfl, rfl, by simp, fun j hj => by simp [Array.getElem?_push, Nat.ne_of_lt hj]⟩
    exact h0.trans (h1.mono h0.size)
  | shape r k ih => intro w w' v hr; exact ih _ (h _) hr
  | frozen a k ih => intro w w' v hr; exact ih _ (h _) hr
  | getObj r k ih =>
    intro w w' v hr
    unfold Sem.run at hr
    split at hr
    · cases hr
    · exact ih _ (h _) hr
    · cases hr
  | choose q k ih =>
    intro w w' v hr
    unfold Sem.run at hr
    split at hr
    · exact ih _ (h _) hr
    · have h1 := ih _ (h _) hr
      exact ⟨h1.os, h1.tape, h1.output, h1.size, h1.block⟩
  | program k ih => intro w w' v hr; exact ih P h hr
  | mark m k ih => intro w w' v hr; exact ih h hr
  | halt x => intro w w' v hr; cases hr
  | store m a v k => exact h.elim
  | freeze a n k => exact h.elim
  | setObj r o k => exact h.elim
  | sys c k => exact h.elim
theorem grow_underlying (t : TypeId) : Grow P (underlying t) := by
  unfold underlying
  refine Grow.bind (by trivial) fun p => ?_
  split <;> trivial
theorem grow_typeInfo (t : TypeId) : Grow P (typeInfo t) := by
  unfold typeInfo
  refine Grow.bind (by trivial) fun p => ?_
  split <;> trivial
theorem grow_sizeOf (t : TypeId) : Grow P (sizeOf t) := (grow_typeInfo t).bind fun _ => trivial
theorem grow_zero (t : TypeId) : Grow P (zeroValue t) := by
  unfold zeroValue
  refine (grow_typeInfo t).bind fun i => ?_
  split <;> trivial
theorem grow_asInt (v : Value) : Grow P (asInt v) := by
  unfold asInt
  refine Grow.bind ?_ fun _ => trivial
  unfold asIntOf
  split <;> trivial
theorem grow_newRow (t : TypeId) (cs : Array Value) : Grow P (newRow t cs) := Grow.bind (fun _ => trivial) fun _ => trivial
theorem grow_isAgg (t : TypeId) : Grow P (isAgg t) := by
  unfold isAgg
  refine (grow_underlying t).bind fun d => ?_
  split <;> trivial
theorem grow_loadCellsFrom (a : Addr) : ∀ (n i : Nat) (acc : Array Value), Grow P (loadCellsFrom a i n acc)
  | 0, _, _ => trivial
  | n + 1, i, acc => by
    unfold loadCellsFrom
    exact Grow.bind (fun _ => trivial) fun v => grow_loadCellsFrom a n (i + 1) _
theorem grow_load (t : TypeId) (v : Value) : Grow P (Instr.loadAt t v) := by
  unfold Instr.loadAt
  refine Grow.bind (by unfold Instr.sureAddr; split <;> trivial) fun a => ?_
  unfold loadVar
  refine (grow_isAgg t).bind fun b => ?_
  split
  · exact (grow_sizeOf t).bind fun n => Grow.bind (grow_loadCellsFrom a n 0 _) fun _ => trivial
  · exact fun _ => trivial
theorem grow_panic {α : Type} (m : String) : Grow P (runtimePanic (.error m) : Sem α) := by
  unfold runtimePanic
  trivial
theorem grow_halt {α : Type} (h : Halt) : Grow P (.halt h : Sem α) := trivial
theorem grow_pure {α : Type} (v : α) : Grow P (pure v : Sem α) := trivial
theorem grow_room (n : Nat) : Grow P (askRoom n) := by unfold askRoom; split <;> trivial
theorem grow_choose (q : Question) : Grow P (choose q) := fun _ => trivial
theorem grow_makeSlice (t : TypeId) (l c : Value) : Grow P (Instr.makeSlice t l c) := by
  unfold Instr.makeSlice
  repeat' (first
    | exact grow_pure _
    | exact grow_halt _
    | exact grow_panic _
    | exact grow_room _
    | exact grow_choose _
    | exact grow_newRow _ _
    | exact grow_underlying _
    | exact grow_typeInfo _
    | exact grow_sizeOf _
    | exact grow_zero _
    | exact grow_asInt _
    | refine Grow.bind ?_ fun _ => ?_
    | split
    | dsimp only)
theorem grow_buildSlice (t : TypeId) (n : Nat) (ps : Array (Nat × Value)) : Grow P (Instr.buildSlice t n ps) := by
  unfold Instr.buildSlice
  repeat' (first
    | exact grow_pure _
    | exact grow_halt _
    | exact grow_newRow _ _
    | exact grow_underlying _
    | exact grow_sizeOf _
    | exact grow_zero _
    | refine Grow.bind ?_ fun _ => ?_
    | split
    | dsimp only)
end
def lowOp : Op → Bool
  | .load _ _ | .makeSlice _ _ _ | .buildSlice _ _ _ => true
  | _ => false
section
variable {P : Program} {n d : Nat} {σ : St} {o : Oper} {K : St → Prop}
theorem wp_low {Q : Exit → Act → World → Prop} {a : Act} {w : World} {K : Act → World → Prop} (hl : lowOp o.op = true) (h : o.wp P a w K Q) : o.wp P a w (fun a' w' => Below w.heap.size w w' ∧ K a' w') Q := by
  have key : ∀ s : Sem Value, Grow P s → execOp a.eval o = (do pure (Next.value (← s))) → o.wp P a w (fun a' w' => Below w.heap.size w w' ∧ K a' w') Q := fun s hs he => by
    unfold Oper.wp at h ⊢
    rw [he, Sem.run_bind] at h ⊢
    cases hr : s.run P w with
    | ok v w' =>
      rw [hr] at h
      simp only [Result.andThen_ok, Sem.run_pure, Oper.upon] at h ⊢
      exact ⟨hs.run hr, h⟩
    | halt x w' =>
      rw [hr] at h
      cases x <;> simp only [Result.andThen, Oper.upon] at h ⊢ <;> exact h
  cases hop : o.op with
  | load t x => exact key (Instr.loadAt t (a.eval x)) (grow_load _ _) (by simp [execOp, hop])
  | makeSlice t l c => exact key (Instr.makeSlice t (a.eval l) (a.eval c)) (grow_makeSlice _ _ _) (by simp [execOp, hop])
  | buildSlice t m ps => exact key (Instr.buildSlice t m (ps.map fun (i, x) => (i, a.eval x))) (grow_buildSlice _ _ _) (by simp [execOp, hop])
  | _ => rw [hop] at hl; cases hl
def HandS (P : Program) (n : Nat) (z : Bool) (σ : St) (o : Oper) (K : St → Prop) : Prop :=
  ∀ (F : Fr) (γ : Gh) (a : Act) (w : World), F.n = n → Rel F σ γ a w → ∃ v σ' γ', (∀ w', (z = true ∨ Below w.heap.size w w') → (execOp a.eval o).run P w' = .ok (.value v) w') ∧ K σ' ∧ Rel F σ' γ' (a.put o.dst v) w
def sopsS (P : Program) (n : Nat) (K : St → Prop) : List (Oper × Bool) → St → Prop
  | [], σ => K σ
  | x :: l, σ => HandS P n x.2 σ x.1 (sopsS P n K l)
def takeB (ops : Array Oper) (k0 r0 : Nat) (zs : List Bool) : Bool :=
  (List.range k0).all (fun i => match ops[i]?, zs[i]? with
    | some o, some z => o.guard.isNone && Region.free .any ops (doneA i ops.size) i && (Region.ready .any ops (doneA i ops.size)).contains i && (z || (List.range ops.size).all fun j => decide (j < r0) || Region.waitsFor .any ops j i)
    | _, _ => false) && Region.noSelect ops && decide (k0 ≤ ops.size) && decide (zs.length = k0) &&
  (List.range ops.size).all (fun j => decide (j < k0) || decide (r0 ≤ j) || match ops[j]? with
    | some o => lowOp o.op
    | none => false) && Region.seqB .any ops (ops.size - k0) k0 (doneA k0 ops.size)
theorem doneA_get {i m j : Nat} : (doneA i m)[j]? = if j < m then some (decide (j < i)) else none := by
  unfold doneA
  simp only [List.getElem?_toArray, List.getElem?_map]
  by_cases h : j < m
  · rw [if_pos h, List.getElem?_range h]; rfl
  · rw [if_neg h, List.getElem?_eq_none (by simp; omega)]; rfl
theorem doneA_set {i m : Nat} (hi : i < m) : (doneA i m).setIfInBounds i true = doneA (i + 1) m := by
  apply Array.ext_getElem?
  intro j
  rw [Array.getElem?_setIfInBounds, doneA_get, doneA_get]
  have hs : (doneA i m).size = m := by unfold doneA; simp
  by_cases hij : i = j
  · subst hij; simp [hs, hi]
  · rw [if_neg hij]
    by_cases h : j < m
    · rw [if_pos h, if_pos h]
      congr 1
      apply decide_eq_decide.2
      omega
    · rw [if_neg h, if_neg h]
theorem doneA_zero {m : Nat} : Array.replicate m false = doneA 0 m := by
  apply Array.ext_getElem?
  intro j
  rw [doneA_get, Array.getElem?_replicate]
  simp
def leaves (r0 B i : Nat) (w w' : World) : Prop := r0 ≤ i ∨ Below B w w'
theorem leaves_pre (r0 B i : Nat) : Pre (leaves r0 B i) :=
  ⟨fun w => .inr (Below.refl _ _), fun h k => by
    rcases h with h | h
    · exact .inl h
    · rcases k with k | k
      · exact .inl k
      · exact .inr (h.trans k)⟩
theorem anyG_seq {F : Fr} {st : List Nat} {ops : Array Oper} {Q : Exit → Act → World → Prop} {r0 B : Nat} (hQ : ∀ σ γ a w, K σ → Rel F σ γ a w → Q .normal a w) :
    ∀ (l : List Oper) (k : Nat) (listed : Array Bool) (σ : St) (γ : Gh) (a : Act) (w : World), (∀ j, l[j]? = ops[k + j]?) → Region.seqB .any ops l.length k listed = true → (∀ j o, l[j]? = some o → r0 ≤ k + j ∨ lowOp o.op = true) → (k < r0 → B ≤ w.heap.size) → Rel F σ γ a w → sopsJ P F.n st ops l σ K → anyG P ops (leaves r0 B) Q l.length listed a w
  | [], _, _, σ, γ, a, w, _, hB, _, _, hr, hs => ⟨by simpa [Region.seqB] using hB, hQ σ γ a w hs hr⟩
  | o :: l, k, listed, σ, γ, a, w, hl, hB, hlow, hsz, hr, hs => by
    have h0 : ops[k]? = some o := by simpa using (hl 0).symm
    simp only [List.length_cons, Region.seqB, Bool.and_eq_true, decide_eq_true_eq] at hB
    refine ⟨fun h1 => (by rw [hB.1] at h1; cases h1), fun i hi => ?_⟩
    rw [hB.1] at hi
    obtain rfl : i = k := by simpa using hi
    have next : ∀ (σ' : St) (γ' : Gh) (a' : Act) (w' : World), (i + 1 < r0 → B ≤ w'.heap.size) → Rel F σ' γ' a' w' → sopsJ P F.n st ops l σ' K → anyG P ops (leaves r0 B) Q l.length (listed.setIfInBounds i true) a' w' := fun σ' γ' a' w' h1 h2 h3 =>
      anyG_seq hQ l (i + 1) _ σ' γ' a' w' (fun j => by have := hl (j + 1); simp only [List.getElem?_cons_succ] at this; rw [this]; congr 1; omega) hB.2 (fun j o' ho' => by have := hlow (j + 1) o' (by simpa using ho'); rcases this with h | h; exact .inl (by omega); exact .inr h) h1 h2 h3
    unfold sopsJ at hs
    unfold wpOp
    rw [h0]
    dsimp only
    have hw0 : ∀ {b : Bool}, guardB ops (look σ.slot) o = some b → Region.wanted o (yielded ops a.tmps) = b := fun hg => guard_ok hr (fun j want t y _ _ hy => hy) hg
    split at hs
    · rename_i hg
      rw [hw0 hg, if_pos rfl]
      refine .inl ?_
      have hwp := sopJ_ok hr hs Q
      by_cases hrk : r0 ≤ i
      · refine Oper.wp_mono (fun a2 w2 hst => ?_) hwp
        obtain ⟨σ', γ', h1, h2⟩ := hst
        exact ⟨.inl hrk, next σ' γ' a2 w2 (fun h => by omega) h2 h1⟩
      · have hlo : lowOp o.op = true := (hlow 0 o rfl).resolve_left (by omega)
        refine Oper.wp_mono (fun a2 w2 hst => ?_) (wp_low hlo hwp)
        obtain ⟨hb, σ', γ', h1, h2⟩ := hst
        have hBw := hsz (by omega)
        exact ⟨.inr (hb.mono hBw), next σ' γ' a2 w2 (fun _ => Nat.le_trans hBw hb.size) h2 h1⟩
    · rename_i hg
      obtain ⟨d, hd, hdn, hs⟩ := hs
      rw [hw0 hg, if_neg (by simp), hd]
      exact ⟨.inr (Below.refl _ _), next _ γ _ w (fun h => hsz (by omega)) (hr.put hdn (x := .v undef) (u := undef) rfl (fun k hk => by cases hk)) hs⟩
    · cases hs
theorem awp_take {F : Fr} {id : Nat} {l : List Oper} {Q : AX → St → Prop} (st : List Nat) (k0 r0 : Nat) (zs : List Bool) (hm : P.follows .mixedOrders = true) (hc : takeB l.toArray k0 r0 zs = true)
    (h : sopsS P F.n (fun σ1 => sopsJ P F.n st l.toArray (l.drop k0) σ1 (Q .normal)) ((l.take k0).zip zs) σ) : AWp P F (Code.region id l.toArray true) Q σ := by
  intro γ a w hr
  simp only [takeB, Bool.and_eq_true, decide_eq_true_eq] at hc
  obtain ⟨⟨⟨⟨⟨c1, c2⟩, c3⟩, c4⟩, c5⟩, c6⟩ := hc
  have hsz : l.toArray.size = l.length := by simp
  rw [hsz] at c3 c5 c6
  refine wp_region_noPanic (wp_region_any hm (anyG_any _ _ _ _ (G := leaves r0 w.drew.heap.size) ?_))
  rw [hsz, doneA_zero]
  have hzl : ((l.take k0).zip zs).length = k0 := by rw [List.length_zip, List.length_take, c4]; omega
  have main : ∀ (m k : Nat), k + m = k0 → ∀ (σ1 : St) (γ1 : Gh) (a1 : Act), Rel F σ1 γ1 a1 w.drew → sopsS P F.n (fun σ1 => sopsJ P F.n st l.toArray (l.drop k0) σ1 (Q .normal)) (((l.take k0).zip zs).drop k) σ1 →
      anyG P l.toArray (leaves r0 w.drew.heap.size) (NoPanic fun e a' w' => ∃ x σ' γ', e = AX.exit_ x ∧ Q x σ' ∧ Rel F σ' γ' a' w') (l.length - k) (doneA k l.length) a1 w.drew := by
    intro m
    induction m with
    | zero =>
      intro k hk σ1 γ1 a1 hr1 hs
      obtain rfl : k = k0 := by omega
      have hdz : ((l.take k).zip zs).drop k = [] := List.drop_of_length_le (by rw [hzl]; exact Nat.le_refl _)
      rw [hdz] at hs
      have := anyG_seq (P := P) (F := F) (st := st) (K := Q .normal) (ops := l.toArray) (Q := NoPanic fun e a' w' => ∃ x σ' γ', e = AX.exit_ x ∧ Q x σ' ∧ Rel F σ' γ' a' w') (r0 := r0) (B := w.drew.heap.size) (fun σ' γ' a' w' hq hr' => ⟨.normal, σ', γ', rfl, hq, hr'⟩) (l.drop k) k (doneA k l.length) σ1 γ1 a1 w.drew (fun j => by simp) (by rw [List.length_drop]; exact c6) (fun j o ho => by
        have ho' : l[k + j]? = some o := by rw [← ho, List.getElem?_drop]
        have hlt := (List.getElem?_eq_some_iff.1 ho').1
        have := List.all_eq_true.1 c5 (k + j) (List.mem_range.2 hlt)
        rw [List.getElem?_toArray, ho'] at this
        simp only [Bool.or_eq_true, decide_eq_true_eq] at this
        rcases this with (h | h) | h
        · omega
        · exact .inl h
        · exact .inr h) (fun _ => Nat.le_refl _) hr1 hs
      rwa [List.length_drop] at this
    | succ m ih =>
      intro k hk σ1 γ1 a1 hr1 hs
      have hkl : k < ((l.take k0).zip zs).length := by omega
      rw [← List.getElem_cons_drop hkl] at hs
      have hkl2 : k < l.length := by omega
      obtain ⟨o, ho⟩ : ∃ o, l[k]? = some o := ⟨l[k], List.getElem?_eq_getElem hkl2⟩
      obtain ⟨z, hz⟩ : ∃ z, zs[k]? = some z := ⟨zs[k]'(by omega), List.getElem?_eq_getElem _⟩
      have hxe : ((l.take k0).zip zs)[k] = (o, z) := by
        have h1 : ((l.take k0).zip zs)[k]? = some (o, z) := by
          rw [List.getElem?_zip_eq_some]
          exact ⟨by rw [List.getElem?_take, if_pos (by omega)]; exact ho, hz⟩
        rw [List.getElem?_eq_getElem hkl] at h1
        exact Option.some.inj h1
      rw [hxe] at hs
      unfold sopsS at hs
      obtain ⟨v, σ', γ', hrun, hK, hr'⟩ := hs F γ1 a1 w.drew rfl hr1
      have hoa : l.toArray[k]? = some o := by rw [List.getElem?_toArray]; exact ho
      have c := List.all_eq_true.1 c1 k (List.mem_range.2 (by omega))
      rw [hoa, hz] at c
      simp only [Bool.and_eq_true, hsz] at c
      obtain ⟨⟨⟨d1, d2⟩, d3⟩, d4⟩ := c
      have hgo : o.guard = none := by simpa using d1
      have hwant : Region.wanted o (yielded l.toArray a1.tmps) = true := by unfold Region.wanted; rw [hgo]
      have hpos : l.length - k = (l.length - (k + 1)) + 1 := by omega
      rw [hpos]
      have hnext := ih (k + 1) (by omega) σ' γ' _ hr' hK
      rw [← doneA_set hkl2] at hnext
      refine anyG_first (L := fun w1 w2 => z = true ∨ Below w.drew.heap.size w1 w2) ⟨fun _ => .inr (Below.refl _ _), fun h1 h2 => ?_⟩ (leaves_pre r0 _) hoa (fun j oj hj hno w1 w2 hg => ?_) (Region.noSelect_spec c2) (fun _ _ _ h => (h : False).elim) _ _ a1 w.drew (Region.free_spec hoa d2) (by simpa using d3) ⟨hwant, fun w' hw' => hrun w' hw'⟩ hnext
      · rcases h1 with h1 | h1
        · exact .inl h1
        · rcases h2 with h2 | h2
          · exact .inl h2
          · exact .inr (h1.trans h2)
      · cases hzz : z with
        | true => exact .inl rfl
        | false =>
          right
          rcases hg with hg | hg
          · rw [hzz] at d4
            simp only [Bool.false_or] at d4
            have hjl : j < l.length := by have := (Array.getElem?_eq_some_iff.1 hj).1; omega
            have := List.all_eq_true.1 d4 j (List.mem_range.2 hjl)
            simp only [Bool.or_eq_true, decide_eq_true_eq] at this
            rcases this with h5 | h5
            · omega
            · obtain ⟨oj', hoj', e, he, hb, hon⟩ := Region.waitsFor_spec h5
              rw [hj] at hoj'
              cases hoj'
              exact absurd hon (hno e he hb)
          · exact hg
  exact main k0 0 (by omega) σ γ a (hr.grow (Below.refl _ _).drew) (by rw [List.drop_zero]; exact h)
end
end Av
end Go.Proofs.YtcloigoajohppaaGreatDoor
/- Steps for plain operations that are taken first; places in lists held as pieces; make of a slice as a piece. Generic. -/
namespace Go.Proofs.YtcloigoajohppaaGreatDoor
open Go.RowKit
namespace Av
section
variable {P : Program} {n d : Nat} {σ : St} {o : Oper} {K : St → Prop} {E : Ext}
theorem sopsS_go {K : St → Prop} {l : List (Oper × Bool)} {z : Bool} (h : HandS P n z σ o (sopsS P n K l)) : sopsS P n K ((o, z) :: l) σ := h
theorem sopsS_end {K : St → Prop} (h : K σ) : sopsS P n K [] σ := h
theorem handS_of {z : Bool} {x : AV} (hd : o.dst = some d) (hdn : d < n) (h : ∀ (F : Fr) (γ : Gh) (a : Act) (w : World), Rel F σ γ a w → ∃ v, (∀ w', (z = true ∨ Below w.heap.size w w') → (execOp a.eval o).run P w' = .ok (.value v) w') ∧ RepA (rdr F.R0 F.w0.heap.size σ γ w) γ.bx x v ∧ ∀ k ∈ x.refs, (look σ.box k).isSome)
    (hK : K (σ.put d x)) : HandS P n z σ o K := fun F γ a w hF hr => by
  obtain ⟨v, h1, h2, h3⟩ := h F γ a w hr
  refine ⟨v, _, γ, h1, hK, ?_⟩
  rw [hd]
  exact hr.put (by rw [hF]; exact hdn) h2 h3
theorem handS_move {x : Operand} {v : AV} (ho : o.op = .move x) (hd : o.dst = some d) (hdn : d < n) (hx : evo (look σ.slot) x = some v) (h : K (σ.put d v)) : HandS P n true σ o K :=
  handS_of hd hdn (fun F γ a w hr => by
    obtain ⟨h1, h2⟩ := evo_ok hr (fun _ _ _ hy => hy) hx
    exact ⟨a.eval x, fun w' _ => by simp [execOp, ho], h1, h2⟩) h
theorem handS_nil {x : Operand} {b off : Nat} (ho : o.op = .nilCheck x) (hd : o.dst = some d) (hdn : d < n) (hx : evo (look σ.slot) x = some (.v (.pointer (some ⟨b, off, none⟩)))) (h : K (σ.put d (.v (.pointer (some ⟨b, off, none⟩))))) : HandS P n true σ o K :=
  handS_of hd hdn (fun F γ a w hr => by
    have e := eval_raw hr hx
    exact ⟨_, fun w' _ => by simp [execOp, ho, e], rfl, fun k hk => by cases hk⟩) h
theorem handS_field {T : TypeId} {x : Operand} {i : Nat} {fs : Array Field} {f : Field} {m b off : Nat} (ho : o.op = .fieldAddr T x i) (hd : o.dst = some d) (hdn : d < n) (hu : P.underlying T = some (.struct fs)) (hf : fs[i]? = some f) (hn : (P.info? f.type).map (·.size) = some (m + 1))
    (hx : evo (look σ.slot) x = some (.v (.pointer (some ⟨b, off, none⟩)))) (h : K (σ.put d (.v (.pointer (some ⟨b, off + f.offset, none⟩))))) : HandS P n true σ o K :=
  handS_of hd hdn (fun F γ a w hr => by
    have e := eval_raw hr hx
    exact ⟨.pointer (some ⟨b, off + f.offset, none⟩), fun w' _ => by simp [execOp, ho, e, run_field_at (P := P) w' T fs f i m b off hu hf hn], rfl, fun k hk => by cases hk⟩) h
theorem handS_index {T e : TypeId} {x ix : Operand} {k : IntKind} {i : Int} {sz : Nat} {rows : List (List PV)} {row : List PV} (ho : o.op = .indexAddr T x ix) (hd : o.dst = some d) (hdn : d < n) (hix : evo (look σ.slot) ix = some (.v (.int k i))) (h2 : 0 ≤ i) (hu : P.underlying T = some (.slice e)) (hx : evo (look σ.slot) x = some (.sl sz rows))
    (h4 : (P.info? e).map (·.size) = some sz) (h5 : rows[i.toNat]? = some row) (h : K (σ.put d (.ept row))) : HandS P n true σ o K :=
  handS_of hd hdn (fun F γ a w hr => by
    have e1 := eval_raw hr hix
    obtain ⟨h6, _⟩ := evo_ok hr (fun _ _ _ hy => hy) hx
    have h6' : RepP _ (.sl sz rows) (a.eval x) := h6
    obtain ⟨j, hj, hs⟩ := info_some h4
    have hlt : i.toNat < rows.length := (List.getElem?_eq_some_iff.1 h5).1
    generalize hv : a.eval x = V at h6'
    cases h6' with
    | sl _ _ _ cap f hsz hA hf hc =>
      rcases hA with h0 | ⟨b, off, rfl, hA⟩
      · rw [h0] at h5; simp at h5
      · have hrl := hsz _ _ h5
        refine ⟨.pointer (some ⟨b, off + i.toNat * sz, none⟩), fun w' _ => ?_, ⟨b, off + i.toNat * sz, (List.range row.length).map (f i.toNat), rfl, ?_, fun q y hy => ?_⟩, fun k hk => by cases hk⟩
        · simp [execOp, ho, hv, e1, Instr.indexAt, run_underlying hu, asIntOf, h2, show i < (rows.length : Int) by omega, sizeOf, typeInfo, hj, hs, Addr.add_lit]
        · refine RepL.of (by simp) fun q p u hp hu' => ?_
          have hq : q < row.length := (List.getElem?_eq_some_iff.1 hp).1
          simp [hq] at hu'
          subst hu'
          exact hf _ row q p h5 hp
        · have hq : q < row.length := by
            rcases Nat.lt_or_ge q row.length with h' | h'
            · exact h'
            · rw [List.getElem?_eq_none (by simpa using h')] at hy; cases hy
          simp [hq] at hy
          subst hy
          exact hA _ row q row[q] h5 (List.getElem?_eq_getElem hq)) h
theorem handS_eLoad {Tv : TypeId} {x : Operand} {b k i : Nat} {vals : List Value} {v : Value} {l : List Ext} {dd : TypeDesc} (ho : o.op = .load Tv x) (hd : o.dst = some d) (hdn : d < n) (hE : σ.ext = E.and (exts l)) (hi : l[i]? = some (rawU b vals))
    (hx : evo (look σ.slot) x = some (.v (.pointer (some ⟨b, k, none⟩)))) (hv : vals[k]? = some v) (hu : P.underlying Tv = some dd) (hdd : dd.isRow = false) (h : K (σ.put d (.v v))) : HandS P n false σ o K :=
  handS_of hd hdn (fun F γ a w hr => by
    have e := eval_raw hr hx
    obtain ⟨T, hbk⟩ : ∃ T, w.heap[b]? = some (.cells vals.toArray T (0, 0)) := hr.piece hE hi
    refine ⟨v, fun w' hw' => ?_, rfl, fun k hk => by cases hk⟩
    have hb := hw'.resolve_left (by simp)
    have hbk' : w'.heap[b]? = some (.cells vals.toArray T (0, 0)) := (hb.block b (Array.getElem?_eq_some_iff.1 hbk).1).trans hbk
    have hc : w'.cell? ⟨b, k, none⟩ = some v := by
      rw [cell_of_row w' _ _ _ T (0, 0) hbk']
      simp [hv]
    simp [execOp, ho, e, run_load_one (P := P) w' b k Tv dd v hc hu hdd]) h
theorem handS_ptLoad {Tv : TypeId} {x : Operand} {p : PV} {row : List PV} {dd : TypeDesc} (ho : o.op = .load Tv x) (hd : o.dst = some d) (hdn : d < n) (hx : evo (look σ.slot) x = some (.ept (p :: row))) (hu : P.underlying Tv = some dd) (hdd : dd.isRow = false) (h : K (σ.put d p.av)) : HandS P n false σ o K :=
  handS_of hd hdn (fun F γ a w hr => by
    obtain ⟨h1, _⟩ := evo_ok hr (fun _ _ _ hy => hy) hx
    obtain ⟨b, off, us, e, h2, h3⟩ := h1
    cases h2 with
    | cons hp ht =>
      rename_i u us
      have hc : w.cell? ⟨b, off, none⟩ = some u := hr.cell (h3 0 u rfl)
      refine ⟨u, fun w' hw' => ?_, hp.av, fun k hk => by cases p <;> cases hk⟩
      have hb := hw'.resolve_left (by simp)
      have hlt : b < w.heap.size := World.block_lt_of_cell? _ _ hc
      have hc' : w'.cell? ⟨b, off, none⟩ = some u := (World.cell?_of_block (w := w) (a := ⟨b, off, none⟩) (hb.block b hlt)).trans hc
      simp [execOp, ho, e, run_load_one (P := P) w' b off Tv dd u hc' hu hdd]) h
theorem row_slice {F : Fr} {γ : Gh} {a : Act} {w : World} (hr : Rel F σ γ a w) {l : List Ext} {i sz g : Nat} {e : TypeId} {V : Value} {xs : List Value} {rows : List (List PV)} (hE : σ.ext = E.and (exts l)) (hi : l[i]? = some (rowsE e sz (some g) V xs rows)) : ∃ cap, V = .slice (some ⟨g, 0, none⟩) rows.length cap := by
  have h : RowsOK w e sz (some g) V xs rows.length := hr.piece hE hi
  obtain ⟨cap, cur, h1, _⟩ := h.own
  exact ⟨cap, h1⟩
theorem run_rIndex {T e : TypeId} {x ix : Operand} {g j sz m cap : Nat} {ρ : Operand → Value} (ho : o.op = .indexAddr T x ix) (hu : P.underlying T = some (.slice e)) (hs : (P.info? e).map (·.size) = some sz) (hx : ρ x = .slice (some ⟨g, 0, none⟩) m cap) (hix : ρ ix = .int .i64 (j : Int)) (hj : j < m) (w : World) : (execOp ρ o).run P w = .ok (.value (.pointer (some ⟨g, j * sz, none⟩))) w := by
  obtain ⟨i, hi, hs⟩ := info_some hs
  simp [execOp, ho, hx, hix, Instr.indexAt, run_underlying hu, asIntOf, hj, sizeOf, typeInfo, hi, hs, Addr.add_lit]
theorem hand_rIndex {T e e' : TypeId} {x ix : Operand} {l : List Ext} {i sz g j : Nat} {V : Value} {xs : List Value} {rows : List (List PV)} (ho : o.op = .indexAddr T x ix) (hd : o.dst = some d) (hdn : d < n) (hE : σ.ext = E.and (exts l)) (hi : l[i]? = some (rowsE e' sz (some g) V xs rows)) (hx : evo (look σ.slot) x = some (.v V)) (hix : evo (look σ.slot) ix = some (.v (.int .i64 (j : Int)))) (hj : j < rows.length)
    (hu : P.underlying T = some (.slice e)) (hs : (P.info? e).map (·.size) = some sz) (h : K (σ.put d (.v (.pointer (some ⟨g, j * sz, none⟩))))) : Hand P n σ o K :=
  hand_pure hd hdn (fun F γ a w hr => by
    obtain ⟨cap, hV⟩ := row_slice hr hE hi
    exact run_rIndex ho hu hs ((eval_raw hr hx).trans hV) (eval_raw hr hix) hj w) h
theorem handq_rIndex {bx0 : Nat → Option (List PV)} {T e e' : TypeId} {x ix : Operand} {l : List Ext} {i sz g j : Nat} {V : Value} {xs : List Value} {rows : List (List PV)} (ho : o.op = .indexAddr T x ix) (hd : o.dst = some d) (hdn : d < n) (hE : σ.ext = E.and (exts l)) (hi : l[i]? = some (rowsE e' sz (some g) V xs rows)) (hx : evo (look σ.slot) x = some (.v V)) (hix : evo (look σ.slot) ix = some (.v (.int .i64 (j : Int)))) (hj : j < rows.length)
    (hu : P.underlying T = some (.slice e)) (hs : (P.info? e).map (·.size) = some sz) : HandQ P n bx0 σ o d ⟨.v (.pointer (some ⟨g, j * sz, none⟩)), none, none⟩ := by
  intro F σ1 γ a w hF hr hops hb hext Q
  have e1 := eval_raw hr (evo_ops hops (x := x) (by rw [ho]; simp [Op.operands]) hx)
  have e2 := eval_raw hr (evo_ops hops (x := ix) (by rw [ho]; simp [Op.operands]) hix)
  obtain ⟨cap, hV⟩ := row_slice hr (hext.trans hE) hi
  exact pure_ok hr hd (by rw [hF]; exact hdn) (u := .pointer (some ⟨g, j * sz, none⟩)) (run_rIndex ho hu hs (e1.trans hV) e2 hj w) rfl (fun j hj => by cases hj)
theorem handq_eLen {bx0 : Nat → Option (List PV)} {x : Operand} {t et : TypeId} {e : TypeId} {sz i : Nat} {q : Option Nat} {V : Value} {xs : List Value} {rows : List (List PV)} {l : List Ext} (ho : o.op = .call { callee := .builtin .len, args := #[x], argTypes := #[t] }) (hd : o.dst = some d) (hdn : d < n) (ht : P.underlying t = some (.slice et)) (hE : σ.ext = E.and (exts l)) (hi : l[i]? = some (rowsE e sz q V xs rows))
    (hx : evo (look σ.slot) x = some (.v V)) : HandQ P n bx0 σ o d ⟨.v (.int .i64 rows.length), none, none⟩ := by
  intro F σ1 γ a w hF hr hops hb hext Q
  have e1 := eval_raw hr (evo_ops hops (x := x) (by rw [ho]; simp [Op.operands, Call.operands]) hx)
  have hrow : RowsOK w e sz q V xs rows.length := hr.piece (hext.trans hE) hi
  have ho2 := hrow.own
  refine pure_ok hr hd (by rw [hF]; exact hdn) (u := .int .i64 rows.length) ?_ rfl (fun j hj => by cases hj)
  cases q with
  | none =>
    obtain ⟨h1, h2⟩ := ho2
    subst h1
    simp only [execOp, ho, resolve, invoke, builtin, List.map_toArray, List.map_cons, List.map_nil, e1]
    simp [Builtin.len_, h2, run_underlying ht, goInt]
  | some g =>
    obtain ⟨cap, cur, h1, _⟩ := ho2
    subst h1
    simp only [execOp, ho, resolve, invoke, builtin, List.map_toArray, List.map_cons, List.map_nil, e1]
    simp [Builtin.len_, run_underlying ht, goInt]
theorem turn_more {F : Fr} {γ : Gh} {a : Act} {w w1 : World} {l : List Ext} {X : Ext} (hr : Rel F σ γ a w) (hE : σ.ext = E.and (exts l)) (ht : Turn Ext.nil w w1 X) : Turn σ.ext w w1 (E.and (exts (X :: l))) := by
  have h := Turn.more (fun b hb => (hr.extf b hb).2.1) hr.exth ht
  have he : EqE (σ.ext.and X) (E.and (exts (X :: l))) := by rw [hE]; exact EqE.assoc _ _ _
  exact ⟨h.os, h.tape, h.output, h.size, h.block, (he.holds _).1 h.holds, fun b hb => h.foot b ((he.foot b).2 hb), fun b hb => h.froz b ((he.froz b).2 hb), fun w0 hl => (he.laid w0).1 (h.laid w0 hl), fun R hR => (he.reads R).1 (h.reads R hR), fun p hp => h.veil p ((he.veil p).2 hp)⟩
theorem hand_makeInts {T e : TypeId} {x : Operand} {m : Nat} {l : List Ext} {z : Value} {ti : TypeInfo} (ho : o.op = .makeSlice T x x) (hd : o.dst = some d) (hdn : d < n) (ht : P.underlying T = some (.slice e)) (hi : P.info? e = some ti) (hz : ti.zero = some z) (hs : ti.size = 1) (hzc : z.cells = #[z]) (hby : ti.bytes ≤ 1000000) (hone : z.oneCell' = true) (hE : σ.ext = E.and (exts l))
    (hx : evo (look σ.slot) x = some (.v (.int .i64 (m : Int)))) (hm : m ≤ 1000000)
    (h : ∀ g cap, K (({ σ with ext := E.and (exts (rowsE e 1 (some g) (.slice (some ⟨g, 0, none⟩) m cap) (List.replicate m z) (List.replicate m [.v z]) :: l)) } : St).put d (.v (.slice (some ⟨g, 0, none⟩) m cap)))) : Hand P n σ o K := by
  refine hand_value hd hdn fun F γ a w _ hr => ?_
  have e1 : a.eval x = .int .i64 (m : Int) := eval_raw hr hx
  have hrun := run_makeSlice (P := P) w T e ti z ht hi hz .i64 .i64 (m : Int) (m : Int) (by omega) (Int.le_refl _) (by rw [hs, Int.toNat_natCast]; omega) (by
    have h1 : (ti.bytes : Int) ≤ 1000000 := by omega
    have h2 : (m : Int) ≤ 1000000 := by omega
    calc (ti.bytes : Int) * m ≤ 1000000 * 1000000 := Int.mul_le_mul h1 h2 (by omega) (by omega)
      _ ≤ _ := by decide) (by omega)
  rw [hs, Nat.mul_one, Int.toNat_natCast, hzc] at hrun
  have hmade : madeCells #[z] m = (List.replicate m z).toArray := by
    unfold madeCells
    apply Array.ext
    · simp
    · intro j h1 h2
      simp [Nat.mod_one]
  rw [hmade] at hrun
  refine ⟨.v (.slice (some ⟨w.heap.size, 0, none⟩) m m), .slice (some ⟨w.heap.size, 0, none⟩) m m, w.alloc (.cells (List.replicate m z).toArray e), _, by simp only [execOp, ho, e1, Sem.run_bind, hrun, Result.andThen_ok, Sem.run_pure], turn_more (X := rowsE e 1 (some w.heap.size) (.slice (some ⟨w.heap.size, 0, none⟩) m m) (List.replicate m z) (List.replicate m [.v z])) hr hE ?_, rfl, (fun k hk => by cases hk), h w.heap.size m⟩
  have hnew : (w.alloc (.cells (List.replicate m z).toArray e)).heap[w.heap.size]? = some (.cells (List.replicate m z).toArray e (0, 0)) := heap_alloc_new w _
  refine Turn.below ((Below.refl _ w).alloc (Nat.le_refl _) _) ⟨⟨m, _, by rw [List.length_replicate], Nat.zero_le _, hnew, by rw [List.length_replicate]; exact Nat.le_refl _, by simp only [maxLen]; omega, by simp⟩, by simp, fun g hg j u hu => ?_⟩ (fun b hb => ?_) (fun b hb => hb.elim) (fun _ _ => trivial) (fun R _ => ⟨fun k row hk => ?_, fun k row j p hk hj => ?_⟩)
  · cases hg
    rw [cell_of_row _ _ _ _ e (0, 0) hnew, List.getElem?_toArray]
    exact hu
  · have hb' : some w.heap.size = some b := hb
    cases hb'
    exact .inr ⟨Nat.le_refl _, by simp⟩
  · rw [List.getElem?_replicate] at hk
    split at hk <;> cases hk
    rfl
  · rw [List.getElem?_replicate] at hk
    split at hk
    · rename_i hkm
      cases hk
      have hj0 : j = 0 := by
        have := (List.getElem?_eq_some_iff.1 hj).1
        simp at this
        exact this
      subst hj0
      cases hj
      exact ⟨z, by rw [Nat.mul_one, Nat.add_zero, List.getElem?_replicate, if_pos hkm], .v _ hone⟩
    · cases hk
end
end Av
end Go.Proofs.YtcloigoajohppaaGreatDoor
