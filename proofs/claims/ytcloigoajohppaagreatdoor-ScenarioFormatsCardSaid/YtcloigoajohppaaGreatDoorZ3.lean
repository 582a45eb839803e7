import Derived.Laws.OwnMore
import Derived.Shelf.LaysM
import Derived.Shelf.LaysC
import Derived.Shelf.Small.Wraps
import Derived.Shelf.Strings.SlTrimAscii
import Derived.Shelf.Strings.SplitShaped
import Derived.Shelf.Strings.Shaped
import Derived.Shelf.Strconv.ErrVarAll
import Derived.Shelf.Abstract
import Derived.Laws.Externs
import Derived.WalkKit
import Derived.RangeFuncNested
import Derived.RangeFuncBound
import Derived.RangeFuncCalls
import Derived.RangeFuncLeaves
import Derived.OrdersIn
import Derived.ProofKit
import Derived.OpenShut
import Derived.Carry
import Derived.ChangeSame
import Derived.Deep.Slices
import Derived.Test.YtcloigoajohppaaGreatDoorZ2
import Derived.Test.YtcloigoajohppaaGreatDoorProg
import Derived.Test.YtcloigoajohppaaGreatDoorRows
set_option linter.unusedVariables false
set_option linter.unusedSimpArgs false
/- A block of plain cells that a function reads and writes through its address: a field's place, loads, stores; regions that draw their order with stores by hand. Generic. -/
namespace Go.Proofs.YtcloigoajohppaaGreatDoor
open Go.RowKit
namespace Av
/-- Block b of type T holds these values. -/
def rawE (T : TypeId) (b : Nat) (vals : List Value) : Ext where
  foot y := y = b
  froz _ := False
  holds w := w.heap[b]? = some (.cells vals.toArray T (0, 0))
  stable {w w'} h hw := (h b (.inl rfl)).trans hw
section
variable {P : Program} {n d : Nat} {σ : St} {o : Oper} {K : St → Prop}
theorem awp_drawJ {F : Fr} {id : Nat} {l l1 l2 : List Oper} {Q : AX → St → Prop} {σ : St} (st : List Nat) (n : Nat) (hm : P.follows .mixedOrders = true) (hc : (decide (n ≤ l.length) && ssaB l.toArray n && tailB l.toArray n) = true) (h1 : l.take n = l1) (h2 : l.drop n = l2)
    (h : ∀ bx0 : Nat → Option (List PV), bx0 = look σ.box → headW P F.n st l.toArray bx0 l1 σ [] fun σ1 sl => sopsJ P F.n st l.toArray l2 (steals σ1 sl) (Q .normal)) : AWp P F (Code.region id l.toArray true) Q σ := by
  simp only [Bool.and_eq_true, decide_eq_true_eq] at hc
  subst h1
  subst h2
  exact awp_drawG st n hm hc.1.1 hc.1.2 hc.2 (fun σ => sopsJ P F.n st l.toArray (l.drop n) σ (Q .normal))
    (fun σ2 γ2 a2 w2 hrel2 hK => sopsJ_ok (P := P) (F := F) (Q := fun e a' w' => ∃ x σ' γ', e = AX.exit_ x ∧ Q x σ' ∧ Rel F σ' γ' a' w') (fun σ'' γ'' a'' w'' hq hr'' => ⟨.normal, σ'', γ'', rfl, hq, hr''⟩) (l.drop n) _ γ2 a2 w2 hrel2 hK) (h _ rfl)
theorem raw_cell {F : Fr} {γ : Gh} {a : Act} {w : World} (hr : Rel F σ γ a w) {T : TypeId} {b k : Nat} {vals : List Value} {v : Value} {A : Ext} (hE : σ.ext = A.and (rawE T b vals)) (hv : vals[k]? = some v) : w.cell? ⟨b, k, none⟩ = some v := by
  have hext := hr.exth
  rw [hE] at hext
  have hb : w.heap[b]? = some (.cells vals.toArray T (0, 0)) := hext.2.1
  rw [cell_of_row w _ _ _ T (0, 0) hb]
  simp [hv]
/-- A load of one of the cells. -/
theorem hand_rawLoad {T Tv : TypeId} {x : Operand} {b k : Nat} {vals : List Value} {v : Value} {A : Ext} {dd : TypeDesc} (ho : o.op = .load Tv x) (hd : o.dst = some d) (hdn : d < n) (hE : σ.ext = A.and (rawE T b vals))
    (hx : evo (look σ.slot) x = some (.v (.pointer (some ⟨b, k, none⟩)))) (hv : vals[k]? = some v) (hu : P.underlying Tv = some dd) (hdd : dd.isRow = false) (h : K (σ.put d (.v v))) : Hand P n σ o K := by
  refine hand_pure hd hdn (fun F γ a w hr => ?_) h
  have e := eval_raw hr hx
  simp [execOp, ho, e, run_load_one (P := P) w b k Tv dd v (raw_cell hr hE hv) hu hdd]
theorem handq_rawLoad {bx0 : Nat → Option (List PV)} {T Tv : TypeId} {x : Operand} {b k : Nat} {vals : List Value} {v : Value} {A : Ext} {dd : TypeDesc} (ho : o.op = .load Tv x) (hd : o.dst = some d) (hdn : d < n) (hE : σ.ext = A.and (rawE T b vals))
    (hx : evo (look σ.slot) x = some (.v (.pointer (some ⟨b, k, none⟩)))) (hv : vals[k]? = some v) (hu : P.underlying Tv = some dd) (hdd : dd.isRow = false) : HandQ P n bx0 σ o d ⟨.v v, none, none⟩ := by
  intro F σ1 γ a w hF hr hops hb hext Q
  have e := eval_raw hr (evo_ops hops (x := x) (by rw [ho]; simp [Op.operands]) hx)
  refine pure_ok hr hd (by rw [hF]; exact hdn) (u := v) ?_ rfl (fun j hj => by cases hj)
  simp [execOp, ho, e, run_load_one (P := P) w b k Tv dd v (raw_cell hr (hext.trans hE) hv) hu hdd]
/-- A store into one. -/
theorem hand_rawStore {T Tv : TypeId} {x y : Operand} {b k : Nat} {vals : List Value} {u : Value} {A : Ext} (ho : o.op = .store Tv x y) (hd : o.dst = none) (hE : σ.ext = A.and (rawE T b vals))
    (hx : evo (look σ.slot) x = some (.v (.pointer (some ⟨b, k, none⟩)))) (hy : evo (look σ.slot) y = some (.v u)) (hk : k < vals.length) (hc1 : u.cells = #[u]) (ho1 : u.oneCell' = true) (hn : (P.info? Tv).map (·.size) = some 1)
    (h : K { σ with ext := A.and (rawE T b (vals.set k u)) }) : Hand P n σ o K := by
  refine hand_skip hd fun F γ a w hF hr => ?_
  have e1 := eval_raw hr hx
  have e2 := eval_raw hr hy
  have hext := hr.exth
  rw [hE] at hext
  obtain ⟨hA, hb, hdis⟩ := hext
  have hb : w.heap[b]? = some (.cells vals.toArray T (0, 0)) := hb
  obtain ⟨j, hj, hs⟩ := info_some hn
  have hst := run_storeCells_cells (P := P) b k [u] 0 w (fun j hj => by
      rw [cell_of_row w _ _ _ T (0, 0) hb]
      simp at hj
      subst hj
      simp [hk]) (fun j hj => by
      unfold World.frozen?
      rw [show (⟨b, k + 0 + j, none⟩ : Addr).block = b from rfl, hb]
      simp) (by simpa using ho1)
  simp only [Nat.add_zero] at hst
  have hw : w.setCells b k [u] = w.setCell ⟨b, k, none⟩ u := rfl
  rw [hw] at hst
  have hg := Lib.grownBy_setCell w b k u
  refine ⟨w.setCell ⟨b, k, none⟩ u, _, ?_, ?_, h⟩
  · simp [execOp, ho, e1, e2, Instr.storeAt, Instr.sureAddr, storeVar, sizeOf, typeInfo, hj, hs, hc1, hst]
  · rw [hE]
    refine Turn.right (fun b' hb' => (hr.extf b' (by rw [hE]; exact hb'.elim (fun h => .inl (.inl h)) (fun h => .inr (.inl h)))).2.1) ⟨hA, hb, hdis⟩ ?_
    refine Turn.grown hg rfl ?_ (fun _ h => h) (fun _ h => .inr h)
    show (w.setCell ⟨b, k, none⟩ u).heap[b]? = _
    simp [World.setCell, Array.getElem?_modify, hb]
/-- Such a block is made. -/
theorem hand_boxRaw {T : TypeId} {x : Operand} (vals : List Value) (ho : o.op = .box T x) (hd : o.dst = some d) (hdn : d < n) (hx : evo (look σ.slot) x = some (.agg (vals.map PV.v)))
    (h : ∀ b, K (({ σ with ext := σ.ext.and (rawE T b vals) } : St).put d (.v (.pointer (some ⟨b, 0, none⟩))))) : Hand P n σ o K := by
  refine hand_value hd hdn fun F γ a w _ hr => ⟨.v (.pointer (some ⟨w.heap.size, 0, none⟩)), .pointer (some ⟨w.heap.size, 0, none⟩), w.alloc (.cells vals.toArray T), _, ?_, Turn.more (fun b hb => (hr.extf b hb).2.1) hr.exth ?_, rfl, (fun k hk => by cases hk), h _⟩
  · have e2 := eval_aggv hr hx
    simp [execOp, ho, e2, Instr.box, newVar, newRow, run_newObj_alloc, Value.cells]
  · have hb : Below w.heap.size w (w.alloc (.cells vals.toArray T)) := (Below.refl _ w).alloc (Nat.le_refl _) _
    refine Turn.below hb (heap_alloc_new w _) (fun y hy => ?_) (fun y hy => hy.elim)
    right
    have hy : y = w.heap.size := hy
    subst hy
    simp
end
end Av
end Go.Proofs.YtcloigoajohppaaGreatDoor
/- What else a frame holds as a list of pieces: one of them is read, changed, lent. Generic. -/
namespace Go.Proofs.YtcloigoajohppaaGreatDoor
open Go.RowKit
namespace Av
/-- Block b holds these values, of whatever type. -/
def rawU (b : Nat) (vals : List Value) : Ext where
  foot y := y = b
  froz _ := False
  holds w := ∃ T, w.heap[b]? = some (.cells vals.toArray T (0, 0))
  stable {w w'} h hw := by obtain ⟨T, hw⟩ := hw; exact ⟨T, (h b (.inl rfl)).trans hw⟩
/-- Two of them that say the same. -/
structure EqE (E E' : Ext) : Prop where
  foot : ∀ b, E.foot b ↔ E'.foot b
  froz : ∀ b, E.froz b ↔ E'.froz b
  holds : ∀ w, E.holds w ↔ E'.holds w
  laid : ∀ w, E.laid w ↔ E'.laid w
  reads : ∀ R, E.reads R ↔ E'.reads R
  veil : ∀ p, E.veil p ↔ E'.veil p
section
variable {A B C A' B' : Ext}
theorem EqE.refl (E : Ext) : EqE E E := ⟨fun _ => Iff.rfl, fun _ => Iff.rfl, fun _ => Iff.rfl, fun _ => Iff.rfl, fun _ => Iff.rfl, fun _ => Iff.rfl⟩
theorem EqE.symm (h : EqE A B) : EqE B A := ⟨fun b => (h.foot b).symm, fun b => (h.froz b).symm, fun b => (h.holds b).symm, fun b => (h.laid b).symm, fun b => (h.reads b).symm, fun b => (h.veil b).symm⟩
theorem EqE.trans (h : EqE A B) (g : EqE B C) : EqE A C := ⟨fun b => (h.foot b).trans (g.foot b), fun b => (h.froz b).trans (g.froz b), fun b => (h.holds b).trans (g.holds b), fun b => (h.laid b).trans (g.laid b), fun b => (h.reads b).trans (g.reads b), fun b => (h.veil b).trans (g.veil b)⟩
theorem EqE.all (h : EqE A B) (b : Nat) : A.all b ↔ B.all b := or_congr (h.foot b) (h.froz b)
theorem EqE.congr (h : EqE A A') (g : EqE B B') : EqE (A.and B) (A'.and B') :=
  ⟨fun b => or_congr (h.foot b) (g.foot b), fun b => or_congr (h.froz b) (g.froz b), fun w => and_congr (h.holds w) (and_congr (g.holds w) (forall_congr' fun b => by rw [h.all b, g.all b])),
    fun w => and_congr (h.laid w) (g.laid w), fun w => and_congr (h.reads w) (g.reads w), fun w => or_congr (h.veil w) (g.veil w)⟩
theorem EqE.comm (A B : Ext) : EqE (A.and B) (B.and A) :=
  ⟨fun _ => Or.comm, fun _ => Or.comm, fun _ => ⟨fun ⟨h1, h2, h3⟩ => ⟨h2, h1, fun b hb ha => h3 b ha hb⟩, fun ⟨h1, h2, h3⟩ => ⟨h2, h1, fun b hb ha => h3 b ha hb⟩⟩, fun _ => And.comm, fun _ => And.comm, fun _ => Or.comm⟩
theorem all_and (b : Nat) : (A.and B).all b ↔ A.all b ∨ B.all b := by
  constructor
  · rintro ((h | h) | (h | h))
    · exact .inl (.inl h)
    · exact .inr (.inl h)
    · exact .inl (.inr h)
    · exact .inr (.inr h)
  · rintro ((h | h) | (h | h))
    · exact .inl (.inl h)
    · exact .inr (.inl h)
    · exact .inl (.inr h)
    · exact .inr (.inr h)
theorem EqE.assoc (A B C : Ext) : EqE ((A.and B).and C) (A.and (B.and C)) := by
  refine ⟨fun _ => or_assoc, fun _ => or_assoc, fun w => ⟨?_, ?_⟩, fun _ => and_assoc, fun _ => and_assoc, fun _ => or_assoc⟩
  · rintro ⟨⟨h1, h2, h3⟩, h4, h5⟩
    exact ⟨h1, ⟨h2, h4, fun b hb hc => h5 b ((all_and b).2 (.inr hb)) hc⟩, fun b ha hbc => ((all_and b).1 hbc).elim (h3 b ha) (h5 b ((all_and b).2 (.inl ha)))⟩
  · rintro ⟨h1, ⟨h2, h4, h5⟩, h3⟩
    exact ⟨⟨h1, h2, fun b ha hb => h3 b ha ((all_and b).2 (.inl hb))⟩, h4, fun b hab hc => ((all_and b).1 hab).elim (fun ha => h3 b ha ((all_and b).2 (.inr hc))) (fun hb => h5 b hb hc)⟩
theorem EqE.nil_right (A : Ext) : EqE (A.and Ext.nil) A :=
  ⟨fun _ => ⟨fun h => h.elim id (fun h => h.elim), .inl⟩, fun _ => ⟨fun h => h.elim id (fun h => h.elim), .inl⟩, fun _ => ⟨fun h => h.1, fun h => ⟨h, trivial, fun b _ hb => hb.elim (fun h => h.elim) (fun h => h.elim)⟩⟩, fun _ => ⟨fun h => h.1, fun h => ⟨h, trivial⟩⟩, fun _ => ⟨fun h => h.1, fun h => ⟨h, trivial⟩⟩, fun _ => ⟨fun h => h.elim id (fun h => h.elim), .inl⟩⟩
end
/-- Pieces. -/
def exts : List Ext → Ext
  | [] => Ext.nil
  | E :: l => (exts l).and E
theorem EqE.perm {l l' : List Ext} (h : l.Perm l') : EqE (exts l) (exts l') := by
  induction h with
  | nil => exact EqE.refl _
  | cons x _ ih => exact ih.congr (EqE.refl _)
  | swap x y l => exact (EqE.assoc _ _ _).trans (((EqE.refl _).congr (EqE.comm _ _)).trans (EqE.assoc _ _ _).symm)
  | trans _ _ h1 h2 => exact h1.trans h2
theorem EqE.app : ∀ (l l' : List Ext), EqE (exts (l ++ l')) ((exts l').and (exts l))
  | [], l' => (EqE.nil_right _).symm
  | E :: l, l' => ((EqE.app l l').congr (EqE.refl E)).trans (EqE.assoc _ _ _)
theorem EqE.foc {l l1 l2 : List Ext} (h : l.Perm (l2 ++ l1)) (E : Ext) : EqE (E.and (exts l)) ((E.and (exts l1)).and (exts l2)) :=
  ((EqE.refl E).congr ((EqE.perm h).trans (EqE.app l2 l1))).trans (EqE.assoc _ _ _).symm
theorem exts_get : ∀ {l : List Ext} {i : Nat} {X : Ext} {w : World}, (exts l).holds w → l[i]? = some X → X.holds w
  | [], _, _, _, _, h => by simp at h
  | E :: l, 0, X, w, hh, h => by simp at h; subst h; exact hh.2.1
  | E :: l, i + 1, X, w, hh, h => exts_get (l := l) (i := i) hh.1 (by simpa using h)
theorem Turn.set : ∀ {l : List Ext} {i : Nat} {X X' : Ext} {w w1 : World}, (∀ b, (exts l).all b → b < w.heap.size) → (exts l).holds w → l[i]? = some X → Turn X w w1 X' → Turn (exts l) w w1 (exts (l.set i X'))
  | [], _, _, _, _, _, _, _, h, _ => by simp at h
  | E :: l, 0, X, X', w, w1, hl, hh, h, ht => by
    simp at h
    subst h
    exact Turn.right (fun b hb => hl b ((all_and b).2 (.inl hb))) hh ht
  | E :: l, i + 1, X, X', w, w1, hl, hh, h, ht =>
    Turn.left (fun b hb => hl b ((all_and b).2 (.inr hb))) hh (Turn.set (l := l) (fun b hb => hl b ((all_and b).2 (.inl hb))) hh.1 (by simpa using h) ht)
theorem perm_one {α : Type} {l : List α} {i : Nat} {X : α} (h : l[i]? = some X) : ∃ r, l.Perm (X :: r) ∧ ∀ X', (l.set i X').Perm (X' :: r) := by
  obtain ⟨hi, rfl⟩ := List.getElem?_eq_some_iff.1 h
  refine ⟨l.take i ++ l.drop (i + 1), ?_, fun X' => ?_⟩
  · conv => lhs; rw [← List.take_append_drop i l, ← List.getElem_cons_drop hi]
    exact List.perm_middle
  · rw [List.set_eq_take_append_cons_drop, if_pos hi]
    exact List.perm_middle
theorem perm_two {α : Type} {l : List α} {i j : Nat} {X Y : α} (hi : l[i]? = some X) (hj : l[j]? = some Y) (hne : i ≠ j) : ∃ r, l.Perm (X :: Y :: r) ∧ ∀ X' Y', ((l.set i X').set j Y').Perm (X' :: Y' :: r) := by
  have key : ∀ {i j : Nat} {X Y : α}, l[i]? = some X → l[j]? = some Y → i < j → ∃ r, l.Perm (X :: Y :: r) ∧ ∀ X' Y', ((l.set i X').set j Y').Perm (X' :: Y' :: r) := by
    intro i j X Y hi hj hlt
    obtain ⟨h1, rfl⟩ := List.getElem?_eq_some_iff.1 hi
    have hj' : (l.drop (i + 1))[j - (i + 1)]? = some Y := by rw [List.getElem?_drop, show i + 1 + (j - (i + 1)) = j by omega]; exact hj
    obtain ⟨r, hr1, hr2⟩ := perm_one hj'
    have e1 : l = l.take i ++ l[i] :: l.drop (i + 1) := by rw [List.getElem_cons_drop, List.take_append_drop]
    refine ⟨l.take i ++ r, ?_, fun X' Y' => ?_⟩
    · have h2 : l.Perm (l[i] :: (l.take i ++ l.drop (i + 1))) := by
        conv => lhs; rw [e1]
        exact List.perm_middle
      refine h2.trans (.cons _ ?_)
      exact (List.Perm.append_left _ hr1).trans List.perm_middle
    · have e2 : (l.set i X').set j Y' = l.take i ++ X' :: (l.drop (i + 1)).set (j - (i + 1)) Y' := by
        have e3 : l.set i X' = l.take i ++ X' :: l.drop (i + 1) := by rw [List.set_eq_take_append_cons_drop, if_pos h1]
        rw [e3, List.set_append_right _ _ (by rw [List.length_take]; omega), List.length_take, Nat.min_eq_left (Nat.le_of_lt h1)]
        rw [show j - i = (j - (i + 1)) + 1 by omega]
        rfl
      rw [e2]
      refine List.perm_middle.trans (.cons _ ?_)
      exact (List.Perm.append_left _ (hr2 Y')).trans List.perm_middle
  rcases Nat.lt_or_gt_of_ne hne with h | h
  · exact key hi hj h
  · obtain ⟨r, h1, h2⟩ := key hj hi h
    refine ⟨r, h1.trans (.swap _ _ _), fun X' Y' => ?_⟩
    rw [List.set_comm _ _ hne]
    exact (h2 Y' X').trans (.swap _ _ _)
section
variable {P : Program} {F : Fr} {σ : St} {γ : Gh} {a : Act} {w : World} {E E' : Ext}
theorem Rel.eqE (h : Rel F σ γ a w) (he : EqE σ.ext E') : Rel F { σ with ext := E' } γ a w :=
  h.turn (Turn.same ((he.holds w).1 h.exth) (fun b hb => (he.foot b).2 hb) (fun b hb => .inr ((he.froz b).2 hb)) (fun w0 hl => (he.laid w0).1 hl) (fun R hr => (he.reads R).1 hr) (fun p hp => .inl ((he.veil p).2 hp)))
theorem awp_eqE {c : Code} {Q : AX → St → Prop} (he : EqE σ.ext E') (h : AWp P F c Q { σ with ext := E' }) : AWp P F c Q σ := fun γ a w hr => h γ a w (hr.eqE he)
variable {n d : Nat} {o : Oper} {K : St → Prop}
theorem hand_eqE (he : EqE σ.ext E') (h : Hand P n { σ with ext := E' } o K) : Hand P n σ o K := fun F γ a w hF hr Q => h F γ a w hF (hr.eqE he) Q
theorem hand_post {K' : St → Prop} (h : Hand P n σ o K') (hk : ∀ σ', K' σ' → ∃ E'', EqE σ'.ext E'' ∧ K { σ' with ext := E'' }) : Hand P n σ o K := fun F γ a w hF hr Q =>
  Oper.wp_mono (fun a' w' ⟨σ', γ', h1, h2⟩ => by
    obtain ⟨E'', he, hK⟩ := hk σ' h1
    exact ⟨_, γ', hK, h2.eqE he⟩) (h F γ a w hF hr Q)
theorem hand_postR {K' : St → Prop} (h : Hand P n σ o K') (hk : ∀ (F : Fr) (γ : Gh) (a : Act) (w : World) σ', Rel F σ' γ a w → K' σ' → ∃ E'', EqE σ'.ext E'' ∧ K { σ' with ext := E'' }) : Hand P n σ o K := fun F γ a w hF hr Q =>
  Oper.wp_mono (fun a' w' ⟨σ', γ', h1, h2⟩ => by
    obtain ⟨E'', he, hK⟩ := hk F γ' a' w' σ' h2 h1
    exact ⟨_, γ', hK, h2.eqE he⟩) (h F γ a w hF hr Q)
theorem ownV_cell {w : World} {B : Nat} {e : TypeId} {sz m : Nat} {v : Value} {q : Option Nat} (h : OwnV w B e sz m v q) : v.cells = #[v] ∧ v.oneCell' = true := by
  cases q with
  | none => obtain ⟨rfl, _⟩ := h; exact ⟨rfl, rfl⟩
  | some g => obtain ⟨cap, cur, rfl, _⟩ := h; exact ⟨rfl, rfl⟩
/-- A call that lends two of the pieces. -/
theorem hand_call2 {ι : Type} {X Y : Ext} {X' Y' : ι → Ext} {l : List Ext} {i j : Nat} {fid : FuncId} {args : Array Operand} {ats : Array TypeId} {avs : List AV} {C : World → Prop} {res : AV} (hc : FnX P C fid avs (exts [X, Y]) res (fun k => exts [X' k, Y' k])) (E : Ext) (hE : σ.ext = E.and (exts l)) (hi : l[i]? = some X) (hj : l[j]? = some Y) (hne : i ≠ j) (hC : ∀ w0, E.laid w0 → C w0)
    (ho : o.op = .call { callee := .value (.func fid), args := args, argTypes := ats }) (hd : o.dst = some d) (hdn : d < n) (hA : evos (look σ.slot) args.toList = some avs) (hp : (avs.all fun x => x.refs.isEmpty) = true)
    (h : ∀ k, K (({ σ with ext := E.and (exts ((l.set i (X' k)).set j (Y' k))) } : St).put d res)) : Hand P n σ o K := by
  obtain ⟨r, h1, h2⟩ := perm_two hi hj hne
  have he : EqE σ.ext ((E.and (exts r)).and (exts [X, Y])) := by rw [hE]; exact EqE.foc (l2 := [X, Y]) h1 E
  refine hand_eqE he (hand_post (K' := fun σ' => ∃ k, σ' = (({ σ with ext := (E.and (exts r)).and (exts [X' k, Y' k]) } : St).put d res)) ?_ ?_)
  · exact hand_callX hc (E.and (exts r)) rfl (fun w0 hl => hC w0 hl.1) ho hd hdn hA hp fun k => ⟨k, rfl⟩
  · rintro σ' ⟨k, rfl⟩
    exact ⟨E.and (exts ((l.set i (X' k)).set j (Y' k))), (EqE.foc (l2 := [X' k, Y' k]) (h2 (X' k) (Y' k)) E).symm, h k⟩
/-- The pieces' facts in the frame's world. -/
theorem Rel.piece {l : List Ext} (hr : Rel F σ γ a w) (hE : σ.ext = E.and (exts l)) {i : Nat} {X : Ext} (hi : l[i]? = some X) : X.holds w := by
  have h := hr.exth
  rw [hE] at h
  exact exts_get h.2.1 hi
/-- A piece has changed. -/
theorem turn_piece {w1 : World} {l : List Ext} {i : Nat} {X X' : Ext} (hr : Rel F σ γ a w) (hE : σ.ext = E.and (exts l)) (hi : l[i]? = some X) (ht : Turn X w w1 X') : Turn σ.ext w w1 (E.and (exts (l.set i X'))) := by
  have h := hr.exth
  rw [hE] at h ⊢
  have hlt : ∀ b, σ.ext.all b → b < w.heap.size := fun b hb => (hr.extf b hb).2.1
  rw [hE] at hlt
  exact Turn.right (fun b hb => hlt b ((all_and b).2 (.inl hb))) h (Turn.set (fun b hb => hlt b ((all_and b).2 (.inr hb))) h.2.1 hi ht)
/-- A load of a cell of such a block. -/
theorem hand_eLoad {Tv : TypeId} {x : Operand} {b k i : Nat} {vals : List Value} {v : Value} {l : List Ext} {dd : TypeDesc} (ho : o.op = .load Tv x) (hd : o.dst = some d) (hdn : d < n) (hE : σ.ext = E.and (exts l)) (hi : l[i]? = some (rawU b vals))
    (hx : evo (look σ.slot) x = some (.v (.pointer (some ⟨b, k, none⟩)))) (hv : vals[k]? = some v) (hu : P.underlying Tv = some dd) (hdd : dd.isRow = false) (h : K (σ.put d (.v v))) : Hand P n σ o K := by
  refine hand_pure hd hdn (fun F γ a w hr => ?_) h
  have e := eval_raw hr hx
  obtain ⟨T, hb⟩ : ∃ T, w.heap[b]? = some (.cells vals.toArray T (0, 0)) := hr.piece hE hi
  have hc : w.cell? ⟨b, k, none⟩ = some v := by
    rw [cell_of_row w _ _ _ T (0, 0) hb]
    simp [hv]
  simp [execOp, ho, e, run_load_one (P := P) w b k Tv dd v hc hu hdd]
/-- A store into one. -/
theorem hand_eStore {Tv : TypeId} {x y : Operand} {b k i : Nat} {vals : List Value} {u : Value} {l : List Ext} (ho : o.op = .store Tv x y) (hd : o.dst = none) (hE : σ.ext = E.and (exts l)) (hi : l[i]? = some (rawU b vals))
    (hx : evo (look σ.slot) x = some (.v (.pointer (some ⟨b, k, none⟩)))) (hy : evo (look σ.slot) y = some (.v u)) (hk : k < vals.length) (hc1 : u.cells = #[u]) (ho1 : u.oneCell' = true) (hn : (P.info? Tv).map (·.size) = some 1)
    (h : K { σ with ext := E.and (exts (l.set i (rawU b (vals.set k u)))) }) : Hand P n σ o K := by
  refine hand_skip hd fun F γ a w hF hr => ?_
  have e1 := eval_raw hr hx
  have e2 := eval_raw hr hy
  obtain ⟨T, hb⟩ : ∃ T, w.heap[b]? = some (.cells vals.toArray T (0, 0)) := hr.piece hE hi
  obtain ⟨j, hj, hs⟩ := info_some hn
  have hst := run_storeCells_cells (P := P) b k [u] 0 w (fun j hj => by
      rw [cell_of_row w _ _ _ T (0, 0) hb]
      simp at hj
      subst hj
      simp [hk]) (fun j hj => by
      unfold World.frozen?
      rw [show (⟨b, k + 0 + j, none⟩ : Addr).block = b from rfl, hb]
      simp) (by simpa using ho1)
  simp only [Nat.add_zero] at hst
  have hw : w.setCells b k [u] = w.setCell ⟨b, k, none⟩ u := rfl
  rw [hw] at hst
  have hg := Lib.grownBy_setCell w b k u
  refine ⟨w.setCell ⟨b, k, none⟩ u, _, ?_, turn_piece (X' := rawU b (vals.set k u)) hr hE hi (Turn.grown hg rfl ?_ (fun _ h => h) (fun _ h => .inr h)), h⟩
  · simp [execOp, ho, e1, e2, Instr.storeAt, Instr.sureAddr, storeVar, sizeOf, typeInfo, hj, hs, hc1, hst]
  · refine ⟨T, ?_⟩
    show (w.setCell ⟨b, k, none⟩ u).heap[b]? = _
    simp [World.setCell, Array.getElem?_modify, hb]
/-- The length of a list that is held so. -/
theorem hand_eLen {x : Operand} {t et : TypeId} {e : TypeId} {sz i : Nat} {q : Option Nat} {V : Value} {xs : List Value} {rows : List (List PV)} {l : List Ext} (ho : o.op = .call { callee := .builtin .len, args := #[x], argTypes := #[t] }) (hd : o.dst = some d) (hdn : d < n) (ht : P.underlying t = some (.slice et)) (hE : σ.ext = E.and (exts l)) (hi : l[i]? = some (rowsE e sz q V xs rows))
    (hx : evo (look σ.slot) x = some (.v V)) (h : K (σ.put d (.v (.int .i64 rows.length)))) : Hand P n σ o K := by
  refine hand_pure hd hdn (fun F γ a w hr => ?_) h
  have e1 := eval_raw hr hx
  have hrow : RowsOK w e sz q V xs rows.length := hr.piece hE hi
  have ho2 := hrow.own
  cases q with
  | none =>
    obtain ⟨h1, h2⟩ := ho2
    subst h1
    simp only [execOp, ho, resolve, invoke, builtin, List.map_toArray, List.map_cons, List.map_nil, e1]
    simp [Builtin.len_, h2, run_underlying ht, goInt]
  | some g =>
    obtain ⟨cap, cur, h1, _⟩ := ho2
    subst h1
    simp only [execOp, ho, resolve, invoke, builtin, List.map_toArray, List.map_cons, List.map_nil, e1]
    simp [Builtin.len_, run_underlying ht, goInt]
/-- Append to it. -/
theorem hand_eApp {s x : Operand} {t e : TypeId} {i : Nat} {q : Option Nat} {V : Value} {xs : List Value} {rows rows2 : List (List PV)} {sz : Nat} {l : List Ext}
    (ho : o.op = .call { callee := .builtin .append, args := #[s, x], argTypes := #[t, t] }) (hd : o.dst = some d) (hdn : d < n) (ht : P.underlying t = some (.slice e)) (hinf : infoB P e sz = true)
    (hE : σ.ext = E.and (exts l)) (hi : l[i]? = some (rowsE e sz q V xs rows)) (hs : evo (look σ.slot) s = some (.v V)) (hx : evo (look σ.slot) x = some (.sl sz rows2)) (hnm : rows.length + rows2.length ≤ 100000000)
    (h : ∀ (q' : Option Nat) (V' : Value) (xs' : List Value), V'.cells = #[V'] → V'.oneCell' = true → K (({ σ with ext := E.and (exts (l.set i (rowsE e sz q' V' xs' (rows ++ rows2)))) } : St).put d (.v V'))) : Hand P n σ o K := by
  obtain ⟨r, h1, h2⟩ := perm_one hi
  have he : EqE σ.ext ((E.and (exts r)).and (rowsE e sz q V xs rows)) := by
    rw [hE]
    refine (EqE.foc (l2 := [rowsE e sz q V xs rows]) h1 E).trans ((EqE.refl _).congr ?_)
    exact (EqE.comm _ _).trans (EqE.nil_right _)
  refine hand_eqE he (hand_postR (K' := fun σ' => ∃ q' V' xs', σ' = (({ σ with ext := (E.and (exts r)).and (rowsE e sz q' V' xs' (rows ++ rows2)) } : St).put d (.v V'))) ?_ ?_)
  · exact hand_appendB ho hd hdn ht hinf rfl hs hx hnm fun q' V' xs' => ⟨q', V', xs', rfl⟩
  · rintro F γ a w σ' hr ⟨q', V', xs', rfl⟩
    have hrow : RowsOK w e sz q' V' xs' (rows ++ rows2).length := hr.exth.2.1
    obtain ⟨g1, g2⟩ := ownV_cell hrow.own
    refine ⟨E.and (exts (l.set i (rowsE e sz q' V' xs' (rows ++ rows2)))), EqE.symm ?_, h q' V' xs' g1 g2⟩
    refine (EqE.foc (l2 := [rowsE e sz q' V' xs' (rows ++ rows2)]) (h2 _) E).trans ((EqE.refl _).congr ?_)
    exact (EqE.comm _ _).trans (EqE.nil_right _)
end
end Av
end Go.Proofs.YtcloigoajohppaaGreatDoor
/- Regions that draw their order where some moves are waited for late: the walk with edges added. Generic. -/
namespace Go.Proofs.YtcloigoajohppaaGreatDoor
open Go.RowKit
namespace Av
section
variable {P : Program} {F : Fr}
theorem any_drawG {l : List Oper} {Q : AX → St → Prop} {σ : St} (st : List Nat) (n : Nat) (hn : n ≤ l.length) (hs : ssaB l.toArray n = true) (ht : tailB l.toArray n = true) (Tl : St → Prop)
    (hTl : ∀ (σ2 : St) (γ2 : Gh) (a2 : Act) (w2 : World), Rel F σ2 γ2 a2 w2 → Tl σ2 → wpList P l.toArray (fun e a' w' => ∃ x σ' γ', e = AX.exit_ x ∧ Q x σ' ∧ Rel F σ' γ' a' w') (l.drop n) a2 w2)
    (h : headW P F.n st l.toArray (look σ.box) (l.take n) σ [] fun σ1 sl => Tl (steals σ1 sl)) : ∀ γ a w, Rel F σ γ a w → wpAny P .any l.toArray (fun e a' w' => ∃ x σ' γ', e = AX.exit_ x ∧ Q x σ' ∧ Rel F σ' γ' a' w') l.toArray.size (Array.replicate l.toArray.size false) a w.drew := by
  intro γ a w hr
  obtain ⟨rs3, σ', sl, hrun, hK, hsl⟩ := headW_run h
  have hsz : l.toArray.size = l.length := by simp
  have hlt : (l.take n).length = n := by simp; omega
  have hlen : rs3.length = n := by rw [hrun.length, hlt]
  have hdst : ∀ {i d r S}, rs3[i]? = some (d, r, S) → i < n ∧ (l.toArray[i]?).bind (·.dst) = some d := fun {i d r S} hx => by
    obtain ⟨o, h1, h2⟩ := hrun.dst hx
    have hi : i < n := by rw [← hlen]; exact (List.getElem?_eq_some_iff.1 hx).1
    refine ⟨hi, ?_⟩
    rw [List.getElem?_take, if_pos hi] at h1
    simp [h1, h2]
  have hrs : ∀ {i : Nat} {d : Nat} {r : HR}, (rs3.map fun x => (x.1, x.2.1))[i]? = some (d, r) → ∃ S, rs3[i]? = some (d, r, S) := fun {i d r} hx => by
    rw [List.getElem?_map] at hx
    cases hq : rs3[i]? with
    | none => rw [hq] at hx; cases hx
    | some x =>
      rw [hq] at hx
      cases hx
      exact ⟨x.2.2, rfl⟩
  have hnd : ∀ (i j d : Nat) (r r' : HR), (rs3.map fun x => (x.1, x.2.1))[i]? = some (d, r) → (rs3.map fun x => (x.1, x.2.1))[j]? = some (d, r') → i = j := fun i j d r r' hi hj => by
    obtain ⟨S, hi⟩ := hrs hi
    obtain ⟨S', hj⟩ := hrs hj
    obtain ⟨h1, h2⟩ := hdst hi
    obtain ⟨h3, h4⟩ := hdst hj
    obtain ⟨o, ho, _, h5, _⟩ := ssa_spec hs h3
    refine h5 i h1 ?_
    rw [h2]
    rw [ho] at h4
    exact h4.symm
  obtain ⟨hsteps, hfin⟩ := hrun.lk (σ0 := σ) hnd 0 (by simp) ((Lk.start σ _).of_iff fun j => by simp)
  have inv0 : HeadInv .any l.toArray n (Array.replicate l.toArray.size false) :=
    ⟨by simp, fun j oj _ hl => (by rw [getD_replicate_false] at hl; cases hl), fun t _ ht => getD_in (by simpa using ht) (getD_replicate_false _ _)⟩
  have hback : ∀ i o, i < n → l.toArray[i]? = some o → ∀ e ∈ o.after, Region.binds .any e = true → e.on < i := fun i o hi ho => by
    obtain ⟨o', ho', _, _, h1⟩ := ssa_spec hs hi
    rw [ho] at ho'
    cases ho'
    exact h1
  simp only [tailB, Bool.and_eq_true, Bool.or_eq_true, decide_eq_true_eq] at ht
  obtain ⟨htail, hseq⟩ := ht
  -- what holds while the head runs
  let Inv : Array Bool → Act → World → Prop := fun listed a w => ∃ σ1 γ, Rel F σ1 γ a w ∧ Lk σ (rs3.map fun x => (x.1, x.2.1)) (fun j => j < n ∧ listed.getD j false = true) σ1 ∧
    ∀ i d r L, rs3[i]? = some (d, r, some L) → listed.getD i false = true → valAt a w γ L = none ∨ valAt a w γ (.s d) = valAt a w γ L
  have hbxk : ∀ {L : Nat → Prop} {σ1 : St} {k : Nat} {cs : List PV}, Lk σ (rs3.map fun x => (x.1, x.2.1)) L σ1 → look σ.box k = some cs → look σ1.box k = some cs := fun {L σ1 k cs} hl hk => by
    rw [hl.box k (fun j d r _ hj hb e => by
      obtain ⟨S, hj⟩ := hrs hj
      obtain ⟨o, σi, _, h1, _⟩ := hsteps j d r S hj
      have := h1.newbox hb
      rw [e, hk] at this
      cases this)]
    exact hk
  have hcnt : cntU n (Array.replicate l.toArray.size false) = n := by
    have : ∀ m, m ≤ l.length → cntU m (Array.replicate l.toArray.size false) = m := fun m => by
      induction m with
      | zero => intro _; rfl
      | succ m ih =>
        intro hm
        unfold cntU
        rw [ih (by omega)]
        simp [show m < l.length by omega]
    exact this n hn
  have goal := any_head (P := P) (Q := fun e a' w' => ∃ x σ' γ', e = AX.exit_ x ∧ Q x σ' ∧ Rel F σ' γ' a' w') (g := l.toArray.size - n) (Inv := Inv) (by rw [hsz]; exact hn) hback (by
      rcases htail with h1 | h1
      · exact .inl h1
      · exact .inr ⟨h1.1.1, h1.1.2, h1.2⟩) ?step ?fin n _ a w.drew hcnt inv0 ⟨σ, γ, hr.grow (Below.refl _ _).drew, (Lk.start σ _).of_iff fun j => ⟨fun hj => by rw [getD_replicate_false] at hj; exact absurd hj.2 (by simp), fun hj => hj.elim⟩, fun i d r L _ hl => by rw [getD_replicate_false] at hl; cases hl⟩
  · rw [show n + (l.toArray.size - n) = l.toArray.size by rw [hsz]; omega] at goal
    exact goal
  case step =>
    rintro i listed a w hi hready hinv ⟨σ1, γ1, h1, h2, h3⟩
    obtain ⟨hun, o, ho, hall⟩ := mem_ready.1 hready
    obtain ⟨o', ho', hssa, _, _⟩ := ssa_spec hs hi
    rw [ho] at ho'
    cases ho'
    have hx : ∃ x, rs3[i]? = some x := ⟨rs3[i]'(by rw [hlen]; exact hi), List.getElem?_eq_getElem _⟩
    obtain ⟨⟨d, r, S⟩, hx⟩ := hx
    obtain ⟨o', σi, h4, h5, h6⟩ := hsteps i d r S hx
    have : o' = o := by
      rw [List.getElem?_take, if_pos hi] at h4
      have h7 : l.toArray[i]? = l[i]? := by simp
      rw [h7, h4] at ho
      exact Option.some.inj ho
    subst this
    have hmap : (rs3.map fun x => (x.1, x.2.1))[i]? = some (d, r) := by rw [List.getElem?_map, hx]; rfl
    have hwait : ∀ j, Region.waitsFor .any l.toArray i j = true → listed.getD j false = true := fun j hj => by
      obtain ⟨oj, hoj, e, he, hb, hon⟩ := Region.waitsFor_spec hj
      rw [ho] at hoj
      cases hoj
      rw [← hon]
      exact hall e he hb
    have hops : ∀ t y, t ∈ o'.looksAt l.toArray → look σi.slot t = some y → look σ1.slot t = some y := fun t y htm hy => by
      by_cases hex : ∃ j d' r', j < n ∧ (rs3.map fun x => (x.1, x.2.1))[j]? = some (d', r') ∧ d' = t
      · obtain ⟨j, d', r', hj, hjx, rfl⟩ := hex
        obtain ⟨S', hjx'⟩ := hrs hjx
        obtain ⟨hji, hw⟩ := hssa d' htm j hj (hdst hjx').2
        have h7 := (h6.in_ j d' r' (by omega) hjx).1
        rw [h7] at hy
        cases hy
        exact (h2.in_ j d' r' ⟨hj, hwait j hw⟩ hjx).1
      · rw [(h6.out t fun j d' r' hj hjx e => hex ⟨j, d', r', by omega, hjx, e⟩).1] at hy
        rw [(h2.out t fun j d' r' hj hjx e => hex ⟨j, d', r', hj.1, hjx, e⟩).1]
        exact hy
    have hLi : ¬ (i < n ∧ listed.getD i false = true) := fun h => by rw [getD_both hun] at h; exact absurd h.2 (by simp)
    have hnone : look σ.box d = none → look σ1.box d = none := fun hd => by
      rw [h2.box d (fun j d' r' hj hjx _ e => by
        subst e
        have := hnd i j d' r r' hmap hjx
        subst this
        exact hLi hj)]
      exact hd
    refine wpOp_mono (fun a' w' hst => ?_) (h5.run σ1 γ1 a w h1 hops (fun k cs hk => hbxk h2 hk) hnone (h2.ext.trans h6.ext.symm) _ i ho)
    obtain ⟨γ', u, rfl, e2, e3, e4, e5⟩ := hst
    have hisz : i < listed.size := by rw [hinv.size, hsz]; omega
    have hset : ∀ j, (listed.setIfInBounds i true).getD j false = true ↔ listed.getD j false = true ∨ j = i := fun j => by
      by_cases hji : i = j
      · subst hji; simp [hisz]
      · rw [getD_set_ne false hji]; simp [show ¬ j = i from fun e => hji e.symm]
    have hd' : d < a.tmps.size := by rw [h1.size]; exact h5.lt
    refine ⟨_, γ', e4, (h2.step hnd hmap hLi).of_iff fun j => ?_, fun m dm rm L hmx hlm => ?_⟩
    · rw [hset]
      constructor
      · rintro ⟨h7, h8 | rfl⟩
        · exact .inl ⟨h7, h8⟩
        · exact .inr rfl
      · rintro (⟨h7, h8⟩ | rfl)
        · exact ⟨h7, .inl h8⟩
        · exact ⟨hi, .inr rfl⟩
    · obtain ⟨om, σm, hm1, hm2, hm3⟩ := hsteps m dm rm (some L) hmx
      obtain ⟨hav, hlooks⟩ := hm2.src_ L rfl
      -- the place's value is as it was
      have hkeep : (∀ t, L = .s t → d ≠ t) → valAt (a.put (some d) u) w' γ' L = valAt a w γ1 L := fun hne => by
        cases L with
        | s t => simp [valAt, getD_put hd', hne t rfl]
        | b k off =>
          have hk : ∃ cs, look σ.box k = some cs := by
            cases hq : look σ.box k with
            | none => simp [avOf, hq] at hav
            | some cs => exact ⟨cs, rfl⟩
          obtain ⟨cs, hk⟩ := hk
          have hk1 : (look σ1.box k).isSome := by rw [hbxk h2 hk]; rfl
          show w'.cell? ⟨γ'.bx k, off, none⟩ = w.cell? ⟨γ1.bx k, off, none⟩
          rw [e3 k hk1]
          exact e2.cell (p := ⟨γ1.bx k, off, none⟩) (h1.box_lt hk1).1
      have hmn : m < n := (hdst hmx).1
      rcases (hset m).1 hlm with hlm | rfl
      · -- m was done before
        have hdm : d ≠ dm := fun e => by
          subst e
          have := hnd i m d r rm hmap (by rw [List.getElem?_map, hmx]; rfl)
          subst this
          exact hLi ⟨hi, hlm⟩
        have hne : ∀ t, L = .s t → d ≠ t := fun t ht e => by
          subst e
          obtain ⟨om', hom', hss, _, _⟩ := ssa_spec hs hmn
          have : om' = om := by
            rw [List.getElem?_take, if_pos hmn] at hm1
            have h7 : l.toArray[m]? = l[m]? := by simp
            rw [h7, hm1] at hom'
            exact (Option.some.inj hom').symm
          subst this
          obtain ⟨_, hw⟩ := hss d (hlooks d ht) i hi (hdst hx).2
          obtain ⟨oj, hoj, e, he, hb, hon⟩ := Region.waitsFor_spec hw
          have := hinv.closed m oj hoj hlm e he hb
          rw [hon, getD_both hun] at this
          cases this
        rw [hkeep hne, show valAt (a.put (some d) u) w' γ' (.s dm) = valAt a w γ1 (.s dm) by simp [valAt, getD_put hd', hdm]]
        exact h3 m dm rm L hmx hlm
      · rw [hx] at hmx
        cases hmx
        have hne : ∀ t, L = .s t → d ≠ t := fun t ht e => by
          subst e
          obtain ⟨om', hom', hss, _, _⟩ := ssa_spec hs hmn
          have : om' = om := by
            rw [List.getElem?_take, if_pos hmn] at hm1
            have h7 : l.toArray[m]? = l[m]? := by simp
            rw [h7, hm1] at hom'
            exact (Option.some.inj hom').symm
          subst this
          exact absurd (hss d (hlooks d ht) m hmn (hdst hx).2).1 (Nat.lt_irrefl _)
        rw [hkeep hne]
        rcases e5 L rfl with h7 | h7
        · right
          rw [h7]
          simp [valAt, getD_put hd']
        · exact .inl h7
  case fin =>
    rintro listed a w hinv hdone ⟨σ1, γ1, h1, h2, h3⟩
    have hdone' : ∀ i, i < n → listed.getD i false = true := fun i hi => by
      have h4 := hdone i hi
      have hs : i < listed.size := by rw [hinv.size, hsz]; omega
      simp [hs] at h4 ⊢
      exact h4
    have hLk : Lk σ (rs3.map fun x => (x.1, x.2.1)) (· < 0 + (l.take n).length) σ1 := h2.of_iff fun j => by
      rw [hlt]
      constructor
      · intro h4; exact ⟨by omega, hdone' j (by omega)⟩
      · intro h4; omega
    obtain ⟨g1, g2, g3, g4⟩ := hLk.same hfin
    have hrel := h1.congr g1 g2 g3 g4
    have hlisted : listed = doneA n l.toArray.size := by
      apply Array.ext
      · rw [hinv.size]; simp [doneA]
      · intro i hi1 hi2
        have hil : i < l.toArray.size := by rw [← hinv.size]; exact hi1
        have : (doneA n l.toArray.size)[i] = decide (i < n) := by simp [doneA]
        rw [this]
        by_cases hin : i < n
        · have := hdone' i hin
          simp [hi1] at this
          rw [this]; simp [hin]
        · have := hinv.tail i (by omega) hil
          simp [hi1] at this
          rw [this]; simp [hin]
    obtain ⟨γ2, _, hrel2⟩ := hrel.steals sl (fun x hx => by
      rcases hsl x hx with h4 | ⟨r, h4⟩
      · cases h4
      · obtain ⟨i, hi⟩ := List.mem_iff_getElem?.1 h4
        obtain ⟨o, σi, h5, h6, h7⟩ := hsteps i _ _ _ hi
        have hin := (hdst hi).1
        refine ⟨?_, h3 i _ _ _ hi (hdone' i hin)⟩
        obtain ⟨hav, hlooks⟩ := h6.src_ x.2 rfl
        have hd1 : σ'.avAt (.s x.1) = some r.av := (hfin.in_ i x.1 r (by rw [hlt]; omega) (by rw [List.getElem?_map, hi]; rfl)).1
        rw [hd1, ← hav]
        cases hL : x.2 with
        | s t =>
          show look σi.slot t = look σ'.slot t
          obtain ⟨o', ho', hss, _, _⟩ := ssa_spec hs hin
          have : o' = o := by
            rw [List.getElem?_take, if_pos hin] at h5
            have h8 : l.toArray[i]? = l[i]? := by simp
            rw [h8, h5] at ho'
            exact (Option.some.inj ho').symm
          subst this
          by_cases hex : ∃ j d' r', j < n ∧ (rs3.map fun x => (x.1, x.2.1))[j]? = some (d', r') ∧ d' = t
          · obtain ⟨j, d', r', hj, hjx, rfl⟩ := hex
            obtain ⟨S', hjx'⟩ := hrs hjx
            obtain ⟨hji, _⟩ := hss d' (hlooks d' hL) j hj (hdst hjx').2
            rw [(h7.in_ j d' r' (by omega) hjx).1, (hfin.in_ j d' r' (by rw [hlt]; omega) hjx).1]
          · rw [(h7.out t fun j d' r' hj hjx e => hex ⟨j, d', r', by omega, hjx, e⟩).1, (hfin.out t fun j d' r' hj hjx e => hex ⟨j, d', r', by rw [hlt] at hj; omega, hjx, e⟩).1]
        | b k off =>
          show ((look σ.box k).bind (·[off]?)).map PV.av = ((look σ'.box k).bind (·[off]?)).map PV.av
          have hk : ∃ cs, look σ.box k = some cs := by
            rw [hL] at hav
            cases hq : look σ.box k with
            | none => simp [avOf, hq] at hav
            | some cs => exact ⟨cs, rfl⟩
          obtain ⟨cs, hk⟩ := hk
          rw [hbxk hfin hk, hk])
    have hwl := hTl _ γ2 a w hrel2 hK
    have hdl : (l.drop n).length = l.toArray.size - n := by simp
    have := wpAny_of_seq (md := .any) (Q' := fun e a' w' => ∃ x σ' γ', e = AX.exit_ x ∧ Q x σ' ∧ Rel F σ' γ' a' w') (ops := l.toArray) (l.drop n) n listed a w (fun j => by simp [List.getElem?_drop]) (by rw [hdl, hlisted]; exact hseq) hwl
    rwa [hdl] at this
end
/-- Operation m waits for operation f, too. -/
def addW (l : List Oper) (m f : Nat) : List Oper := l.modify m fun o => { o with after := o.after.push ⟨f, .data⟩ }
/-- Operation f is a move that waits for nothing; all that do not wait for it are apart from it. -/
def floatB (ops : Array Oper) (f : Nat) : Bool :=
  match ops[f]? with
  | some o => (match o.op with
    | .move _ => true
    | _ => false) && o.guard.isNone && o.after.isEmpty && o.dst.isSome && (List.range ops.size).all fun j => Nat.beq j f || (match ops[j]? with
      | some oj => oj.after.any (fun e => Region.binds .any e && e.on == f) || o.apart ops oj
      | none => true)
  | none => false
def noSel (ops : Array Oper) : Bool := ops.all fun o => match o.op with
  | .select _ _ => false
  | _ => true
section
variable {P : Program} {Q : Exit → Act → World → Prop}
theorem addW_get {l : List Oper} {m f j : Nat} : (addW l m f)[j]? = (l[j]?).map fun o => if j = m then { o with after := o.after.push ⟨f, .data⟩ } else o := by
  unfold addW
  rw [List.getElem?_modify]
  cases h : l[j]? with
  | none => simp
  | some o =>
    by_cases hj : m = j
    · subst hj; simp
    · simp only [Option.map_eq_map, Option.map_some]
      rw [if_neg hj, if_neg (fun e => hj e.symm)]
theorem addW_len {l : List Oper} {m f : Nat} : (addW l m f).length = l.length := by unfold addW; rw [List.length_modify]
theorem yielded_addW {l : List Oper} {m f : Nat} (t : Array Value) : yielded (addW l m f).toArray t = yielded l.toArray t := by
  funext j
  unfold yielded
  have : ((addW l m f).toArray[j]?).bind (·.dst) = (l.toArray[j]?).bind (·.dst) := by
    simp only [List.getElem?_toArray, addW_get]
    cases l[j]? with
    | none => rfl
    | some o =>
      simp only [Option.map_some, Option.bind_some]
      split <;> rfl
  rw [this]
theorem wpOp_addW {l : List Oper} {m f i : Nat} {K : Act → World → Prop} {a : Act} {w : World} (h : wpOp P (addW l m f).toArray Q i K a w) : wpOp P l.toArray Q i K a w := by
  unfold wpOp at h ⊢
  rw [yielded_addW] at h
  simp only [List.getElem?_toArray, addW_get] at h ⊢
  cases ho : l[i]? with
  | none => rw [ho] at h; exact h
  | some o =>
    rw [ho] at h
    simp only [Option.map_some] at h
    by_cases hi : i = m
    · rw [if_pos hi] at h; exact h
    · rw [if_neg hi] at h; exact h
theorem ready_addW {l : List Oper} {m f : Nat} {listed : Array Bool} (hf : listed.getD f false = true) : Region.ready .any (addW l m f).toArray listed = Region.ready .any l.toArray listed := by
  have key : ∀ j, j ∈ Region.ready .any (addW l m f).toArray listed ↔ j ∈ Region.ready .any l.toArray listed := fun j => by
    rw [mem_ready, mem_ready]
    refine and_congr Iff.rfl ?_
    simp only [List.getElem?_toArray, addW_get]
    constructor
    · rintro ⟨o, ho, h⟩
      obtain ⟨o0, h0, rfl⟩ := Option.map_eq_some_iff.1 ho
      refine ⟨o0, h0, fun e he hb => h e ?_ hb⟩
      split
      · simp only [Array.mem_push]; exact .inl he
      · exact he
    · rintro ⟨o, ho, h⟩
      refine ⟨_, by rw [ho]; rfl, fun e he hb => ?_⟩
      split at he
      · simp only [Array.mem_push] at he
        rcases he with he | he
        · exact h e he hb
        · subst he; exact hf
      · exact h e he hb
  unfold Region.ready at key ⊢
  have hsz : (addW l m f).toArray.size = l.toArray.size := by simp [addW_len]
  rw [hsz] at key ⊢
  refine List.filter_congr fun j hj => ?_
  have := key j
  simp only [List.mem_filter, hj, true_and] at this
  exact Bool.eq_iff_iff.2 this
theorem wpAny_addW {l : List Oper} {m f : Nat} : ∀ (n : Nat) (listed : Array Bool) (a : Act) (w : World), listed.getD f false = true → wpAny P .any (addW l m f).toArray Q n listed a w → wpAny P .any l.toArray Q n listed a w
  | 0, listed, a, w, hf, h => ⟨by rw [← ready_addW hf]; exact h.1, h.2⟩
  | n + 1, listed, a, w, hf, h => by
    refine ⟨fun h0 => h.1 (by rw [ready_addW hf]; exact h0), fun i hi => ?_⟩
    have h1 := h.2 i (by rw [ready_addW hf]; exact hi)
    refine wpOp_mono (fun a' w' hr => wpAny_addW n _ a' w' ?_ hr) (wpOp_addW h1)
    rw [Array.getD_eq_getD_getElem?, Array.getElem?_setIfInBounds]
    rw [Array.getD_eq_getD_getElem?] at hf
    split
    · rename_i he
      subst he
      split
      · rfl
      · rename_i hlt
        rw [Array.getElem?_eq_none (by omega)] at hf
        cases hf
    · exact hf
/-- A move that floats: the walk may take the order in which it comes ahead of operation m. -/
theorem wpAny_float {l : List Oper} {m f : Nat} (hfl : floatB l.toArray f = true) (hns : noSel l.toArray = true) (hmf : m ≠ f) (hQ : ∀ c a w, ¬ Q (.panic c) a w) {a : Act} {w : World} (h : wpAny P .any (addW l m f).toArray Q l.toArray.size (Array.replicate l.toArray.size false) a w) : wpAny P .any l.toArray Q l.toArray.size (Array.replicate l.toArray.size false) a w := by
  unfold floatB at hfl
  cases ho : l.toArray[f]? with
  | none => rw [ho] at hfl; cases hfl
  | some o =>
    rw [ho] at hfl
    simp only [Bool.and_eq_true] at hfl
    obtain ⟨⟨⟨⟨h1, h2⟩, h3⟩, h4⟩, h5⟩ := hfl
    have hlt : f < l.toArray.size := (Array.getElem?_eq_some_iff.1 ho).1
    have hlt2 : f < l.length := by simpa using hlt
    obtain ⟨n, hn⟩ : ∃ n, l.toArray.size = n + 1 := ⟨l.toArray.size - 1, by omega⟩
    have hready : ∀ {ops : Array Oper} {o' : Oper}, ops[f]? = some o' → o'.after = #[] → f ∈ Region.ready .any ops (Array.replicate l.toArray.size false) := fun {ops o'} h hao => by
      refine mem_ready.2 ⟨by simp [Array.getD_eq_getD_getElem?, Array.getElem?_replicate, hlt2], o', h, fun e he _ => ?_⟩
      rw [hao] at he
      simp at he
    have hao : o.after = #[] := by simpa using h3
    have hgo : o.guard = none := by simpa using h2
    obtain ⟨x, hx⟩ : ∃ x, o.op = .move x := by
      cases hop : o.op <;> rw [hop] at h1 <;> first | exact ⟨_, rfl⟩ | cases h1
    have hrun : ∀ w, (execOp a.eval o).run P w = .ok (.value (a.eval x)) w := fun w => by simp [execOp, hx]
    have hw : ∀ {ops : Array Oper}, Region.wanted o (yielded ops a.tmps) = true := fun {ops} => by unfold Region.wanted; rw [hgo]
    have hres : wpAny P .any (addW l m f).toArray Q n ((Array.replicate l.toArray.size false).setIfInBounds f true) (a.put o.dst (a.eval x)) w := by
      have ho' : (addW l m f).toArray[f]? = some o := by
        simp only [List.getElem?_toArray, addW_get] at ho ⊢
        rw [ho, Option.map_some, if_neg (fun e => hmf e.symm)]
      rw [hn] at h
      have h6 := h.2 f (by rw [← hn]; exact hready ho' hao)
      unfold wpOp at h6
      rw [ho'] at h6
      dsimp only at h6
      rw [if_pos hw] at h6
      rcases h6 with h6 | ⟨h6, _⟩
      · unfold Oper.wp at h6
        rw [hrun] at h6
        rw [hn]
        exact h6
      · have he : ((execOp a.eval o).runT P w #[]).2 = #[] := by unfold execOp; rw [hx]; rfl
        exact absurd h6 (by unfold Oper.asks; rw [he]; simp)
    have h7 := wpAny_addW n _ _ w (by simp [Array.getD_eq_getD_getElem?, hlt2]) hres
    rw [hn]
    rw [hn] at h7
    refine wpAny_first ho (fun j oj cs b hj hs => ?_) (fun c a w h => absurd h (hQ _ _ _)) n _ a w (fun j oj hj hne _ hno => ?_) (by rw [← hn]; exact hready ho hao) (.inl ⟨hw, hrun⟩) h7
    · have := Array.all_eq_true.1 hns j (Array.getElem?_eq_some_iff.1 hj).1
      rw [(Array.getElem?_eq_some_iff.1 hj).2, hs] at this
      cases this
    · have h8 := List.all_eq_true.1 h5 j (List.mem_range.2 (Array.getElem?_eq_some_iff.1 hj).1)
      rw [hj] at h8
      simp only [Bool.or_eq_true] at h8
      rcases h8 with h8 | h8 | h8
      · exact absurd (Nat.eq_of_beq_eq_true h8) hne
      · obtain ⟨k, hk, he⟩ := Array.any_eq_true.1 h8
        simp only [Bool.and_eq_true, beq_iff_eq] at he
        exact absurd he.2 (hno _ (Array.getElem_mem hk) he.1)
      · exact h8
def addWs : List Oper → List (Nat × Nat) → List Oper
  | l, [] => l
  | l, (m, f) :: fs => addWs (addW l m f) fs
def floatsB : List Oper → List (Nat × Nat) → Bool
  | _, [] => true
  | l, (m, f) :: fs => floatB l.toArray f && noSel l.toArray && !Nat.beq m f && floatsB (addW l m f) fs
theorem wpAny_floats (hQ : ∀ c a w, ¬ Q (.panic c) a w) : ∀ {fs : List (Nat × Nat)} {l : List Oper} {a : Act} {w : World}, floatsB l fs = true → wpAny P .any (addWs l fs).toArray Q l.toArray.size (Array.replicate l.toArray.size false) a w → wpAny P .any l.toArray Q l.toArray.size (Array.replicate l.toArray.size false) a w
  | [], _, _, _, _, h => h
  | (m, f) :: fs, l, a, w, hc, h => by
    unfold floatsB at hc
    simp only [Bool.and_eq_true, Bool.not_eq_true'] at hc
    obtain ⟨⟨⟨h1, h2⟩, h3⟩, h4⟩ := hc
    have hsz : (addW l m f).toArray.size = l.toArray.size := by simp [addW_len]
    refine wpAny_float (m := m) h1 h2 (fun e => ?_) hQ ?_
    · subst e; rw [Nat.beq_refl] at h3; cases h3
    · have := wpAny_floats hQ (fs := fs) (l := addW l m f) (a := a) (w := w) h4 (by rw [hsz]; exact h)
      rwa [hsz] at this
theorem addWs_len : ∀ {fs : List (Nat × Nat)} {l : List Oper}, (addWs l fs).length = l.length
  | [], _ => rfl
  | (m, f) :: fs, l => by unfold addWs; rw [addWs_len, addW_len]
theorem awp_floatJ {F : Fr} {id : Nat} {l l1 l2 : List Oper} {Q : AX → St → Prop} {σ : St} (st : List Nat) (n : Nat) (fs : List (Nat × Nat)) (hm : P.follows .mixedOrders = true) (hf : floatsB l fs = true) (hc : (decide (n ≤ (addWs l fs).length) && ssaB (addWs l fs).toArray n && tailB (addWs l fs).toArray n) = true) (h1 : (addWs l fs).take n = l1) (h2 : (addWs l fs).drop n = l2)
    (h : ∀ bx0 : Nat → Option (List PV), bx0 = look σ.box → headW P F.n st (addWs l fs).toArray bx0 l1 σ [] fun σ1 sl => sopsJ P F.n st (addWs l fs).toArray l2 (steals σ1 sl) (Q .normal)) : AWp P F (Code.region id l.toArray true) Q σ := by
  intro γ a w hr
  refine wp_region_any hm ?_
  simp only [Bool.and_eq_true, decide_eq_true_eq] at hc
  subst h1
  subst h2
  have := any_drawG (P := P) (F := F) (Q := Q) (σ := σ) st n hc.1.1 hc.1.2 hc.2 (fun σ => sopsJ P F.n st (addWs l fs).toArray ((addWs l fs).drop n) σ (Q .normal))
    (fun σ2 γ2 a2 w2 hrel2 hK => sopsJ_ok (P := P) (F := F) (Q := fun e a' w' => ∃ x σ' γ', e = AX.exit_ x ∧ Q x σ' ∧ Rel F σ' γ' a' w') (fun σ'' γ'' a'' w'' hq hr'' => ⟨.normal, σ'', γ'', rfl, hq, hr''⟩) ((addWs l fs).drop n) _ γ2 a2 w2 hrel2 hK) (h _ rfl) γ a w hr
  have hsz : (addWs l fs).toArray.size = l.toArray.size := by simp [addWs_len]
  rw [hsz] at this
  refine wpAny_floats (fun c a w => ?_) hf this
  rintro ⟨x, _, _, h, _⟩
  cases x <;> cases h
end
end Av
end Go.Proofs.YtcloigoajohppaaGreatDoor
/- Pieces in a drawn head. Generic. -/
namespace Go.Proofs.YtcloigoajohppaaGreatDoor
open Go.RowKit
namespace Av
section
variable {P : Program} {n d : Nat} {σ : St} {o : Oper} {E : Ext}
theorem handq_eLoad {bx0 : Nat → Option (List PV)} {Tv : TypeId} {x : Operand} {b k i : Nat} {vals : List Value} {v : Value} {l : List Ext} {dd : TypeDesc} (ho : o.op = .load Tv x) (hd : o.dst = some d) (hdn : d < n) (hE : σ.ext = E.and (exts l)) (hi : l[i]? = some (rawU b vals))
    (hx : evo (look σ.slot) x = some (.v (.pointer (some ⟨b, k, none⟩)))) (hv : vals[k]? = some v) (hu : P.underlying Tv = some dd) (hdd : dd.isRow = false) : HandQ P n bx0 σ o d ⟨.v v, none, none⟩ := by
  intro F σ1 γ a w hF hr hops hb hext Q
  have e := eval_raw hr (evo_ops hops (x := x) (by rw [ho]; simp [Op.operands]) hx)
  refine pure_ok hr hd (by rw [hF]; exact hdn) (u := v) ?_ rfl (fun j hj => by cases hj)
  obtain ⟨T, hbk⟩ : ∃ T, w.heap[b]? = some (.cells vals.toArray T (0, 0)) := hr.piece (hext.trans hE) hi
  have hc : w.cell? ⟨b, k, none⟩ = some v := by
    rw [cell_of_row w _ _ _ T (0, 0) hbk]
    simp [hv]
  simp [execOp, ho, e, run_load_one (P := P) w b k Tv dd v hc hu hdd]
/-- A cell of such a list. -/
theorem row_cell {F : Fr} {γ : Gh} {a : Act} {w : World} (hr : Rel F σ γ a w) {l : List Ext} {i sz g j : Nat} {e : TypeId} {V v : Value} {xs : List Value} {rows : List (List PV)} (hE : σ.ext = E.and (exts l)) (hi : l[i]? = some (rowsE e sz (some g) V xs rows)) (hv : xs[j]? = some v) : w.cell? ⟨g, j, none⟩ = some v := by
  have h : RowsOK w e sz (some g) V xs rows.length := hr.piece hE hi
  exact h.at_ g rfl j v hv
variable {K : St → Prop}
theorem hand_rLoad {Tv : TypeId} {x : Operand} {l : List Ext} {i sz g j : Nat} {e : TypeId} {V v : Value} {xs : List Value} {rows : List (List PV)} {dd : TypeDesc} (ho : o.op = .load Tv x) (hd : o.dst = some d) (hdn : d < n) (hE : σ.ext = E.and (exts l)) (hi : l[i]? = some (rowsE e sz (some g) V xs rows))
    (hx : evo (look σ.slot) x = some (.v (.pointer (some ⟨g, j, none⟩)))) (hv : xs[j]? = some v) (hu : P.underlying Tv = some dd) (hdd : dd.isRow = false) (h : K (σ.put d (.v v))) : Hand P n σ o K := by
  refine hand_pure hd hdn (fun F γ a w hr => ?_) h
  have e1 := eval_raw hr hx
  simp [execOp, ho, e1, run_load_one (P := P) w g j Tv dd v (row_cell hr hE hi hv) hu hdd]
theorem handq_rLoad {bx0 : Nat → Option (List PV)} {Tv : TypeId} {x : Operand} {l : List Ext} {i sz g j : Nat} {e : TypeId} {V v : Value} {xs : List Value} {rows : List (List PV)} {dd : TypeDesc} (ho : o.op = .load Tv x) (hd : o.dst = some d) (hdn : d < n) (hE : σ.ext = E.and (exts l)) (hi : l[i]? = some (rowsE e sz (some g) V xs rows))
    (hx : evo (look σ.slot) x = some (.v (.pointer (some ⟨g, j, none⟩)))) (hv : xs[j]? = some v) (hu : P.underlying Tv = some dd) (hdd : dd.isRow = false) : HandQ P n bx0 σ o d ⟨.v v, none, none⟩ := by
  intro F σ1 γ a w hF hr hops hb hext Q
  have e1 := eval_raw hr (evo_ops hops (x := x) (by rw [ho]; simp [Op.operands]) hx)
  refine pure_ok hr hd (by rw [hF]; exact hdn) (u := v) ?_ rfl (fun j hj => by cases hj)
  simp [execOp, ho, e1, run_load_one (P := P) w g j Tv dd v (row_cell hr (hext.trans hE) hi hv) hu hdd]
/-- A store of a plain value into such a cell: cell c of row k. -/
theorem hand_rStore {Tv : TypeId} {x y : Operand} {l : List Ext} {i sz g k c : Nat} {e : TypeId} {V u : Value} {xs : List Value} {rows : List (List PV)} {row : List PV} (ho : o.op = .store Tv x y) (hd : o.dst = none) (hE : σ.ext = E.and (exts l)) (hi : l[i]? = some (rowsE e sz (some g) V xs rows))
    (hx : evo (look σ.slot) x = some (.v (.pointer (some ⟨g, k * sz + c, none⟩)))) (hy : evo (look σ.slot) y = some (.v u)) (hk : rows[k]? = some row) (hc : c < sz) (hc1 : u.cells = #[u]) (ho1 : u.oneCell' = true) (hn : (P.info? Tv).map (·.size) = some 1)
    (h : K { σ with ext := E.and (exts (l.set i (rowsE e sz (some g) V (xs.set (k * sz + c) u) (rows.set k (row.set c (.v u)))))) }) : Hand P n σ o K := by
  refine hand_skip hd fun F γ a w hF hr => ?_
  have e1 := eval_raw hr hx
  have e2 := eval_raw hr hy
  have hrow : RowsOK w e sz (some g) V xs rows.length := hr.piece hE hi
  obtain ⟨cap, cur, hV, _, hg, hnc, hcm, hcs⟩ := hrow.own
  have hkl := (List.getElem?_eq_some_iff.1 hk).1
  have hmul : (k + 1) * sz ≤ rows.length * sz := Nat.mul_le_mul_right _ hkl
  have hmul2 : rows.length * sz ≤ cap * sz := Nat.mul_le_mul_right _ hnc
  rw [Nat.succ_mul] at hmul
  have hlt : k * sz + c < cur.size := by omega
  have hxl : k * sz + c < xs.length := by rw [hrow.len]; omega
  obtain ⟨j, hj, hs⟩ := info_some hn
  have hst := run_storeCells_cells (P := P) g (k * sz + c) [u] 0 w (fun j hj => by
      rw [cell_of_row w _ _ _ e (0, 0) hg]
      simp at hj
      subst hj
      simp [hlt]) (fun j hj => by
      unfold World.frozen?
      rw [show (⟨g, k * sz + c + 0 + j, none⟩ : Addr).block = g from rfl, hg]
      simp) (by simpa using ho1)
  simp only [Nat.add_zero] at hst
  have hw : w.setCells g (k * sz + c) [u] = w.setCell ⟨g, k * sz + c, none⟩ u := rfl
  rw [hw] at hst
  have hgr := Lib.grownBy_setCell w g (k * sz + c) u
  have hh1 : (w.setCell ⟨g, k * sz + c, none⟩ u).heap[g]? = some (.cells (cur.setIfInBounds (k * sz + c) u) e (0, 0)) := by
    simp [World.setCell, Array.getElem?_modify, hg]
  have hrun : (execOp a.eval o).run P w = .ok .skip (w.setCell ⟨g, k * sz + c, none⟩ u) := by
    simp [execOp, ho, e1, e2, Instr.storeAt, Instr.sureAddr, storeVar, sizeOf, typeInfo, hj, hs, hc1, hst]
  have hnew : RowsOK (w.setCell ⟨g, k * sz + c, none⟩ u) e sz (some g) V (xs.set (k * sz + c) u) (rows.set k (row.set c (.v u))).length := by
    refine ⟨?_, by rw [List.length_set, List.length_set]; exact hrow.len, fun g' hg' j y hy => ?_⟩
    · rw [List.length_set]
      exact ⟨cap, _, hV, Nat.zero_le _, hh1, hnc, hcm, by simpa using hcs⟩
    · cases hg'
      rw [cell_of_row _ _ _ _ e (0, 0) hh1]
      by_cases hjk : k * sz + c = j
      · subst hjk
        rw [List.getElem?_set_self hxl] at hy
        simp [hlt, hy]
      · rw [List.getElem?_set_ne hjk] at hy
        have := hrow.at_ g rfl j y hy
        rw [cell_of_row w _ _ _ e (0, 0) hg] at this
        rw [Array.getElem?_setIfInBounds_ne hjk]
        exact this
  have hrd : ∀ R, (rowsE e sz (some g) V xs rows).reads R → (rowsE e sz (some g) V (xs.set (k * sz + c) u) (rows.set k (row.set c (.v u)))).reads R := fun R h => by
    have h : RowsRd R sz xs rows := h
    have hrl := h.len k row hk
    refine ⟨fun k' row' hk' => ?_, fun k' row' j p hk' hj => ?_⟩
    · by_cases e1 : k = k'
      · subst e1
        rw [List.getElem?_set_self hkl] at hk'
        cases hk'
        rw [List.length_set]; exact hrl
      · rw [List.getElem?_set_ne e1] at hk'
        exact h.len k' row' hk'
    · by_cases e1 : k = k'
      · subst e1
        rw [List.getElem?_set_self hkl] at hk'
        cases hk'
        by_cases e2 : c = j
        · subst e2
          rw [List.getElem?_set_self (by rw [hrl]; exact hc)] at hj
          cases hj
          exact ⟨u, by rw [List.getElem?_set_self hxl], .v _ ho1⟩
        · rw [List.getElem?_set_ne e2] at hj
          obtain ⟨x, h1, h2⟩ := h.rd k row j p hk hj
          exact ⟨x, by rw [List.getElem?_set_ne (by omega)]; exact h1, h2⟩
      · rw [List.getElem?_set_ne e1] at hk'
        obtain ⟨x, h1, h2⟩ := h.rd k' row' j p hk' hj
        have hjl : j < sz := by
          have := (List.getElem?_eq_some_iff.1 hj).1
          rw [h.len k' row' hk'] at this
          exact this
        refine ⟨x, ?_, h2⟩
        rw [List.getElem?_set_ne]
        · exact h1
        · intro he
          rcases Nat.lt_or_gt_of_ne e1 with hlt' | hlt'
          · have h3 : (k + 1) * sz ≤ k' * sz := Nat.mul_le_mul_right _ hlt'
            rw [Nat.succ_mul] at h3
            omega
          · have h3 : (k' + 1) * sz ≤ k * sz := Nat.mul_le_mul_right _ hlt'
            rw [Nat.succ_mul] at h3
            omega
  exact ⟨_, _, hrun, turn_piece (X' := rowsE e sz (some g) V (xs.set (k * sz + c) u) (rows.set k (row.set c (.v u)))) hr hE hi (Turn.grown hgr rfl hnew (fun _ h => h) (fun _ h => .inr h) (fun _ _ => trivial) hrd), h⟩
end
end Av
end Go.Proofs.YtcloigoajohppaaGreatDoor
/- Sizes and zero values of types. -/
namespace Go.Proofs.YtcloigoajohppaaGreatDoor
open Go.RowKit
open Av
set_option maxRecDepth 100000
set_option linter.unusedSimpArgs false
theorem Tryz.sz92 : (Tryz.prog.info? 92).map (·.size) = some 1 := by kernel_rfl
theorem Tryz.zr92 : (Tryz.prog.info? 92).map (·.zero) = some (some (.pointer none)) := by kernel_rfl
theorem Tryz.pl92 (k : Nat) : (Tryz.prog.info? 92).map (fun t => (k, t.size)) = some (k, 1) := by
  have h := Tryz.sz92
  cases hi : Tryz.prog.info? 92 with
  | none => rw [hi] at h; cases h
  | some i => rw [hi] at h; simp only [Option.map_some, Option.some.injEq] at h ⊢; rw [h]
theorem Tryz.is92 : (Tryz.prog.info? 92).isSome = true := by kernel_rfl
theorem Tryz.by92 : (Tryz.prog.info? 92).map (fun j => decide (j.bytes ≤ 1000000)) = some true := by kernel_rfl
theorem Tryz.sz131 : (Tryz.prog.info? 131).map (·.size) = some 1 := by kernel_rfl
theorem Tryz.zr131 : (Tryz.prog.info? 131).map (·.zero) = some (some (.nilFunc)) := by kernel_rfl
theorem Tryz.pl131 (k : Nat) : (Tryz.prog.info? 131).map (fun t => (k, t.size)) = some (k, 1) := by
  have h := Tryz.sz131
  cases hi : Tryz.prog.info? 131 with
  | none => rw [hi] at h; cases h
  | some i => rw [hi] at h; simp only [Option.map_some, Option.some.injEq] at h ⊢; rw [h]
theorem Tryz.is131 : (Tryz.prog.info? 131).isSome = true := by kernel_rfl
theorem Tryz.by131 : (Tryz.prog.info? 131).map (fun j => decide (j.bytes ≤ 1000000)) = some true := by kernel_rfl
theorem Tryz.sz134 : (Tryz.prog.info? 134).map (·.size) = some 3 := by kernel_rfl
theorem Tryz.zr134 : (Tryz.prog.info? 134).map (·.zero) = some (some (.agg #[.int .i64 0, .int .i64 0, .nilFunc])) := by kernel_rfl
theorem Tryz.pl134 (k : Nat) : (Tryz.prog.info? 134).map (fun t => (k, t.size)) = some (k, 3) := by
  have h := Tryz.sz134
  cases hi : Tryz.prog.info? 134 with
  | none => rw [hi] at h; cases h
  | some i => rw [hi] at h; simp only [Option.map_some, Option.some.injEq] at h ⊢; rw [h]
theorem Tryz.is134 : (Tryz.prog.info? 134).isSome = true := by kernel_rfl
theorem Tryz.by134 : (Tryz.prog.info? 134).map (fun j => decide (j.bytes ≤ 1000000)) = some true := by kernel_rfl
theorem Tryz.sz95 : (Tryz.prog.info? 95).map (·.size) = some 1 := by kernel_rfl
theorem Tryz.zr95 : (Tryz.prog.info? 95).map (·.zero) = some (some (.map none)) := by kernel_rfl
theorem Tryz.pl95 (k : Nat) : (Tryz.prog.info? 95).map (fun t => (k, t.size)) = some (k, 1) := by
  have h := Tryz.sz95
  cases hi : Tryz.prog.info? 95 with
  | none => rw [hi] at h; cases h
  | some i => rw [hi] at h; simp only [Option.map_some, Option.some.injEq] at h ⊢; rw [h]
theorem Tryz.is95 : (Tryz.prog.info? 95).isSome = true := by kernel_rfl
theorem Tryz.by95 : (Tryz.prog.info? 95).map (fun j => decide (j.bytes ≤ 1000000)) = some true := by kernel_rfl
theorem Tryz.sz136 : (Tryz.prog.info? 136).map (·.size) = some 1 := by kernel_rfl
theorem Tryz.zr136 : (Tryz.prog.info? 136).map (·.zero) = some (some (.pointer none)) := by kernel_rfl
theorem Tryz.pl136 (k : Nat) : (Tryz.prog.info? 136).map (fun t => (k, t.size)) = some (k, 1) := by
  have h := Tryz.sz136
  cases hi : Tryz.prog.info? 136 with
  | none => rw [hi] at h; cases h
  | some i => rw [hi] at h; simp only [Option.map_some, Option.some.injEq] at h ⊢; rw [h]
theorem Tryz.is136 : (Tryz.prog.info? 136).isSome = true := by kernel_rfl
theorem Tryz.by136 : (Tryz.prog.info? 136).map (fun j => decide (j.bytes ≤ 1000000)) = some true := by kernel_rfl
end Go.Proofs.YtcloigoajohppaaGreatDoor
/- Regions that draw their order: plain operations are taken first, the others come in the text's order. Generic. -/
namespace Go.Proofs.YtcloigoajohppaaGreatDoor
open Go.RowKit
namespace Av
section
variable {P : Program} {ops : Array Oper} {Q : Exit → Act → World → Prop} {L : World → World → Prop} {G : Nat → World → World → Prop}
structure Pre (L : World → World → Prop) : Prop where
  refl : ∀ w, L w w
  trans : ∀ {u v w}, L u v → L v w → L u w
def YieldsL (P : Program) (ops : Array Oper) (L : World → World → Prop) (o : Oper) (v : Value) (a : Act) (w : World) : Prop :=
  Region.wanted o (yielded ops a.tmps) = true ∧ ∀ w', L w w' → (execOp a.eval o).run P w' = .ok (.value v) w'
theorem YieldsL.wpOp (hL : Pre L) {i : Nat} {o : Oper} {v : Value} {a : Act} {w : World} (hi : ops[i]? = some o) (hy : YieldsL P ops L o v a w) {K : Act → World → Prop} (h : K (a.put o.dst v) w) : wpOp P ops Q i K a w := by
  unfold Go.wpOp
  simp only [hi]
  obtain ⟨hw, hv⟩ := hy
  simp only [hw, if_true, Oper.wp, hv w (hL.refl _), Oper.upon]; exact .inl h
theorem YieldsL.of_same (hL : Pre L) {o : Oper} {v : Value} {a a' : Act} {w w' : World} (hy : YieldsL P ops L o v a w) (he : execOp a'.eval o = execOp a.eval o)
    (hw : Region.wanted o (yielded ops a'.tmps) = Region.wanted o (yielded ops a.tmps)) (hb : L w w') : YieldsL P ops L o v a' w' :=
  ⟨by rw [hw]; exact hy.1, fun w'' hb' => by rw [he]; exact hy.2 w'' (hL.trans hb hb')⟩
theorem anyL_put (hL : Pre L) {M : World → World → Prop} {j : Nat} {oi oj : Oper} {v : Value} (hM : ∀ w w', M w w' → L w w') (hj : ops[j]? = some oj) (hap : oi.apart ops oj = true)
    (hsi : ∀ cs b, oi.op ≠ .select cs b) (hsj : ∀ cs b, oj.op ≠ .select cs b)
    (hQ : ∀ c a w, Q (.panic c) (a.put oi.dst v) w → Q (.panic c) a w) {K : Act → World → Prop} {a : Act} {w : World}
    (hy : YieldsL P ops L oi v a w) (h : wpOp P ops Q j (fun a' w' => M w w' ∧ K a' w') (a.put oi.dst v) w) :
    wpOp P ops Q j (fun a' w' => M w w' ∧ YieldsL P ops L oi v a' w' ∧ K (a'.put oi.dst v) w') a w := by
  obtain ⟨h1, h2, h3⟩ := Oper.apart_spec hap
  have keep : ∀ (a : Act) (w w' : World), M w w' → YieldsL P ops L oi v a w → ∀ u, YieldsL P ops L oi v (a.put oj.dst u) w' := fun a w w' hb hy u =>
    hy.of_same hL (execOp_put oi hsi a oj.dst u h3) (wanted_put oi a oj.dst u h3) (hM _ _ hb)
  have keepD : ∀ d, YieldsL P ops L oi v { a with defers := d :: a.defers } w := fun d => hy.of_same hL rfl rfl (hL.refl _)
  unfold wpOp at *
  simp only [hj] at *
  rw [wanted_put oj a oi.dst v h1] at h
  split
  · rename_i hw
    simp only [hw, if_true] at h
    rcases h with h | ⟨hasks, hlets⟩
    case inr => exact .inr ⟨by unfold Oper.asks at *; rw [execOp_put oj hsj a oi.dst v h1] at hasks; exact hasks, hlets⟩
    refine .inl ?_
    unfold Oper.wp at *
    rw [execOp_put oj hsj a oi.dst v h1] at h
    generalize (execOp a.eval oj).run P w = r at *
    cases r with
    | ok n w' =>
      cases n <;> simp only [Oper.upon] at h ⊢
      case value u => exact ⟨h.1, keep a w _ h.1 hy u, by rw [← Act.put_comm a v u h2]; exact h.2⟩
      case skip => exact ⟨h.1, keep a w _ h.1 hy _, by rw [← Act.put_comm a v undef h2]; exact h.2⟩
      case defer d =>
        refine ⟨h.1, keep _ w _ h.1 (keepD d) _, ?_⟩
        rw [← Act.put_comm _ v undef h2, ← Act.put_defers]
        exact h.2
      case enter f args =>
        refine Calls.mono h fun e w'' he => ?_
        cases e with
        | returned u => exact ⟨he.1, keep a w _ he.1 hy u, by rw [← Act.put_comm a v u h2]; exact he.2⟩
        | panicked c => exact hQ _ _ _ he
        | outgrown => exact he
      case row row args => exact Rows.mono h fun u w'' he => ⟨he.1, keep a w _ he.1 hy u, by rw [← Act.put_comm a v u h2]; exact he.2⟩
    | halt x w' =>
      cases x <;> simp only [Oper.upon] at h ⊢
      case panic u => exact hQ _ _ _ h
  · rename_i hw
    simp only [hw] at h
    exact ⟨h.1, keep a w _ h.1 hy _, by rw [← Act.put_comm a v undef h2]; exact h.2⟩
def anyG (P : Program) (ops : Array Oper) (G : Nat → World → World → Prop) (Q : Exit → Act → World → Prop) : Nat → Array Bool → Act → World → Prop
  | 0, listed, a, w => Region.ready .any ops listed = [] ∧ Q .normal a w
  | f + 1, listed, a, w => (Region.ready .any ops listed = [] → Q .normal a w) ∧ ∀ i ∈ Region.ready .any ops listed, wpOp P ops Q i (fun a' w' => G i w w' ∧ anyG P ops G Q f (listed.setIfInBounds i true) a' w') a w
theorem anyG_any : ∀ (f : Nat) (listed : Array Bool) (a : Act) (w : World), anyG P ops G Q f listed a w → wpAny P .any ops Q f listed a w
  | 0, _, _, _, h => h
  | f + 1, _, _, _, h => ⟨h.1, fun i hi => wpOp_mono (fun a' w' h' => anyG_any f _ a' w' h'.2) (h.2 i hi)⟩
theorem anyG_first (hL : Pre L) (hG : ∀ i, Pre (G i)) {i : Nat} {oi : Oper} {v : Value} (hi : ops[i]? = some oi) (hR : ∀ j oj, ops[j]? = some oj → (∀ e ∈ oj.after, Region.binds .any e = true → e.on ≠ i) → ∀ w w', G j w w' → L w w') (hsel : ∀ (j : Nat) (o : Oper) cs b, ops[j]? = some o → o.op ≠ .select cs b)
    (hQ : ∀ c a w, Q (.panic c) (a.put oi.dst v) w → Q (.panic c) a w) :
    ∀ (f : Nat) (listed : Array Bool) (a : Act) (w : World),
      (∀ j oj, ops[j]? = some oj → j ≠ i → listed.getD j true = false → (∀ e ∈ oj.after, Region.binds .any e = true → e.on ≠ i) → oi.apart ops oj = true) →
      i ∈ Region.ready .any ops listed → YieldsL P ops L oi v a w →
      anyG P ops G Q f (listed.setIfInBounds i true) (a.put oi.dst v) w → anyG P ops G Q (f + 1) listed a w := by
  intro f
  induction f with
  | zero =>
    intro listed a w _ hr hy H
    refine ⟨fun h => (by rw [h] at hr; cases hr), fun j hj => ?_⟩
    by_cases hji : j = i
    · subst hji; exact hy.wpOp hL hi ⟨(hG j).refl _, H⟩
    · have := ready_mono hj hji
      rw [H.1] at this
      cases this
  | succ f ih =>
    intro listed a w hfree hr hy H
    refine ⟨fun h => (by rw [h] at hr; cases hr), fun j hj => ?_⟩
    by_cases hji : j = i
    · subst hji; exact hy.wpOp hL hi ⟨(hG j).refl _, H⟩
    · have h1 := H.2 j (ready_mono hj hji)
      obtain ⟨hjun, oj, hoj, hall⟩ := mem_ready.1 hj
      have hnot : ∀ e ∈ oj.after, Region.binds .any e = true → e.on ≠ i := fun e he hb heq => by
        have h1 := hall e he hb
        rw [heq, getD_both (mem_ready.1 hr).1] at h1
        cases h1
      have h2 := anyL_put hL (M := G j) (hR j oj hoj hnot) hoj (hfree j oj hoj hji hjun hnot) (fun cs b => hsel i oi cs b hi) (fun cs b => hsel j oj cs b hoj) hQ hy h1
      have hfree' : ∀ k ok, ops[k]? = some ok → k ≠ i → (listed.setIfInBounds j true).getD k true = false →
          (∀ e ∈ ok.after, Region.binds .any e = true → e.on ≠ i) → oi.apart ops ok = true := fun k ok hk hki hun hno => by
        refine hfree k ok hk hki ?_ hno
        by_cases hjk : j = k
        · subst hjk; exact hjun
        · rw [getD_set_ne true hjk] at hun; exact hun
      refine wpOp_mono (fun a' w' h3 => ⟨h3.1, ih (listed.setIfInBounds j true) a' w' hfree' (ready_mono hr (Ne.symm hji)) h3.2.1 ?_⟩) h2
      rw [Array.setIfInBounds_comm _ _ hji]
      exact h3.2.2
end
/-- Programs that only look and make. -/
def Grow (P : Program) {α : Type} : Sem α → Prop
  | .pure _ => True
  | .load _ _ k => ∀ v, Grow P (k v)
  | .new _ k => ∀ r, Grow P (k r)
  | .shape _ k => ∀ s, Grow P (k s)
  | .frozen _ k => ∀ b, Grow P (k b)
  | .getObj _ k => ∀ o, Grow P (k o)
  | .choose _ k => ∀ n, Grow P (k n)
  | .program k => Grow P (k P)
  | .mark _ k => Grow P k
  | .halt _ => True
  | _ => False
section
variable {P : Program}
theorem Grow.bind {α β : Type} {s : Sem α} {f : α → Sem β} (h : Grow P s) (hf : ∀ v, Grow P (f v)) : Grow P (s >>= f) := by
  show Grow P (s.bind f)
  induction s with
  | pure a => exact hf a
  | load m a k ih => exact fun v => ih v (h v)
  | new o k ih => exact fun v => ih v (h v)
  | shape r k ih => exact fun v => ih v (h v)
  | frozen a k ih => exact fun v => ih v (h v)
  | getObj r k ih => exact fun v => ih v (h v)
  | choose q k ih => exact fun v => ih v (h v)
  | program k ih => exact ih P h
  | mark m k ih => exact ih h
  | halt x => trivial
  | store m a v k => exact h.elim
  | freeze a n k => exact h.elim
  | setObj r o k => exact h.elim
  | sys c k => exact h.elim
theorem Grow.run {α : Type} {s : Sem α} (h : Grow P s) : ∀ {w w' : World} {v : α}, s.run P w = .ok v w' → Below w.heap.size w w' := by
  induction s with
  | pure a => intro w w' v hr; cases hr; exact Below.refl _ _
  | load m a k ih =>
    intro w w' v hr
    unfold Sem.run at hr
    split at hr
    · exact ih _ (h _) hr
    · split at hr
      · exact ih _ (h _) hr
      · cases hr
  | new o k ih =>
    intro w w' v hr
    have h1 := ih _ (h _) (w := { w with heap := w.heap.push o }) hr
    have h0 : Below w.heap.size w { w with heap := w.heap.push o } := ⟨rfl, rfl, rfl, by simp, fun j hj => by simp [Array.getElem?_push, Nat.ne_of_lt hj]⟩
    exact h0.trans (h1.mono h0.size)
  | shape r k ih => intro w w' v hr; exact ih _ (h _) hr
  | frozen a k ih => intro w w' v hr; exact ih _ (h _) hr
  | getObj r k ih =>
    intro w w' v hr
    unfold Sem.run at hr
    split at hr
    · cases hr
    · exact ih _ (h _) hr
    · cases hr
  | choose q k ih =>
    intro w w' v hr
    unfold Sem.run at hr
    split at hr
    · exact ih _ (h _) hr
    · have h1 := ih _ (h _) hr
      exact ⟨h1.os, h1.tape, h1.output, h1.size, h1.block⟩
  | program k ih => intro w w' v hr; exact ih P h hr
  | mark m k ih => intro w w' v hr; exact ih h hr
  | halt x => intro w w' v hr; cases hr
  | store m a v k => exact h.elim
  | freeze a n k => exact h.elim
  | setObj r o k => exact h.elim
  | sys c k => exact h.elim
theorem grow_underlying (t : TypeId) : Grow P (underlying t) := by
  unfold underlying
  refine Grow.bind (by trivial) fun p => ?_
  split <;> trivial
theorem grow_typeInfo (t : TypeId) : Grow P (typeInfo t) := by
  unfold typeInfo
  refine Grow.bind (by trivial) fun p => ?_
  split <;> trivial
theorem grow_sizeOf (t : TypeId) : Grow P (sizeOf t) := (grow_typeInfo t).bind fun _ => trivial
theorem grow_zero (t : TypeId) : Grow P (zeroValue t) := by
  unfold zeroValue
  refine (grow_typeInfo t).bind fun i => ?_
  split <;> trivial
theorem grow_asInt (v : Value) : Grow P (asInt v) := by
  unfold asInt
  refine Grow.bind ?_ fun _ => trivial
  unfold asIntOf
  split <;> trivial
theorem grow_newRow (t : TypeId) (cs : Array Value) : Grow P (newRow t cs) := Grow.bind (fun _ => trivial) fun _ => trivial
theorem grow_isAgg (t : TypeId) : Grow P (isAgg t) := by
  unfold isAgg
  refine (grow_underlying t).bind fun d => ?_
  split <;> trivial
theorem grow_loadCellsFrom (a : Addr) : ∀ (n i : Nat) (acc : Array Value), Grow P (loadCellsFrom a i n acc)
  | 0, _, _ => trivial
  | n + 1, i, acc => by
    unfold loadCellsFrom
    exact Grow.bind (fun _ => trivial) fun v => grow_loadCellsFrom a n (i + 1) _
theorem grow_load (t : TypeId) (v : Value) : Grow P (Instr.loadAt t v) := by
  unfold Instr.loadAt
  refine Grow.bind (by unfold Instr.sureAddr; split <;> trivial) fun a => ?_
  unfold loadVar
  refine (grow_isAgg t).bind fun b => ?_
  split
  · exact (grow_sizeOf t).bind fun n => Grow.bind (grow_loadCellsFrom a n 0 _) fun _ => trivial
  · exact fun _ => trivial
theorem grow_panic {α : Type} (m : String) : Grow P (runtimePanic (.error m) : Sem α) := by
  unfold runtimePanic
  trivial
theorem grow_halt {α : Type} (h : Halt) : Grow P (.halt h : Sem α) := trivial
theorem grow_pure {α : Type} (v : α) : Grow P (pure v : Sem α) := trivial
theorem grow_room (n : Nat) : Grow P (askRoom n) := by unfold askRoom; split <;> trivial
theorem grow_choose (q : Question) : Grow P (choose q) := fun _ => trivial
theorem grow_makeSlice (t : TypeId) (l c : Value) : Grow P (Instr.makeSlice t l c) := by
  unfold Instr.makeSlice
  repeat' (first
    | exact grow_pure _
    | exact grow_halt _
    | exact grow_panic _
    | exact grow_room _
    | exact grow_choose _
    | exact grow_newRow _ _
    | exact grow_underlying _
    | exact grow_typeInfo _
    | exact grow_sizeOf _
    | exact grow_zero _
    | exact grow_asInt _
    | refine Grow.bind ?_ fun _ => ?_
    | split
    | dsimp only)
theorem grow_buildSlice (t : TypeId) (n : Nat) (ps : Array (Nat × Value)) : Grow P (Instr.buildSlice t n ps) := by
  unfold Instr.buildSlice
  repeat' (first
    | exact grow_pure _
    | exact grow_halt _
    | exact grow_newRow _ _
    | exact grow_underlying _
    | exact grow_sizeOf _
    | exact grow_zero _
    | refine Grow.bind ?_ fun _ => ?_
    | split
    | dsimp only)
end
def lowOp : Op → Bool
  | .load _ _ | .makeSlice _ _ _ | .buildSlice _ _ _ => true
  | _ => false
section
variable {P : Program} {n d : Nat} {σ : St} {o : Oper} {K : St → Prop}
theorem wp_low {Q : Exit → Act → World → Prop} {a : Act} {w : World} {K : Act → World → Prop} (hl : lowOp o.op = true) (h : o.wp P a w K Q) : o.wp P a w (fun a' w' => Below w.heap.size w w' ∧ K a' w') Q := by
  have key : ∀ s : Sem Value, Grow P s → execOp a.eval o = (do pure (Next.value (← s))) → o.wp P a w (fun a' w' => Below w.heap.size w w' ∧ K a' w') Q := fun s hs he => by
    unfold Oper.wp at h ⊢
    rw [he, Sem.run_bind] at h ⊢
    cases hr : s.run P w with
    | ok v w' =>
      rw [hr] at h
      simp only [Result.andThen_ok, Sem.run_pure, Oper.upon] at h ⊢
      exact ⟨hs.run hr, h⟩
    | halt x w' =>
      rw [hr] at h
      cases x <;> simp only [Result.andThen, Oper.upon] at h ⊢ <;> exact h
  cases hop : o.op with
  | load t x => exact key (Instr.loadAt t (a.eval x)) (grow_load _ _) (by simp [execOp, hop])
  | makeSlice t l c => exact key (Instr.makeSlice t (a.eval l) (a.eval c)) (grow_makeSlice _ _ _) (by simp [execOp, hop])
  | buildSlice t m ps => exact key (Instr.buildSlice t m (ps.map fun (i, x) => (i, a.eval x))) (grow_buildSlice _ _ _) (by simp [execOp, hop])
  | _ => rw [hop] at hl; cases hl
/-- A plain operation; z: it looks at no memory. -/
def HandS (P : Program) (n : Nat) (z : Bool) (σ : St) (o : Oper) (K : St → Prop) : Prop :=
  ∀ (F : Fr) (γ : Gh) (a : Act) (w : World), F.n = n → Rel F σ γ a w → ∃ v σ' γ', (∀ w', (z = true ∨ Below w.heap.size w w') → (execOp a.eval o).run P w' = .ok (.value v) w') ∧ K σ' ∧ Rel F σ' γ' (a.put o.dst v) w
def sopsS (P : Program) (n : Nat) (K : St → Prop) : List (Oper × Bool) → St → Prop
  | [], σ => K σ
  | x :: l, σ => HandS P n x.2 σ x.1 (sopsS P n K l)
def takeB (ops : Array Oper) (k0 r0 : Nat) (zs : List Bool) : Bool :=
  (List.range k0).all (fun i => match ops[i]?, zs[i]? with
    | some o, some z => o.guard.isNone && Region.free .any ops (doneA i ops.size) i && (Region.ready .any ops (doneA i ops.size)).contains i && (z || (List.range ops.size).all fun j => decide (j < r0) || Region.waitsFor .any ops j i)
    | _, _ => false) && Region.noSelect ops && decide (k0 ≤ ops.size) && decide (zs.length = k0) &&
  (List.range ops.size).all (fun j => decide (j < k0) || decide (r0 ≤ j) || match ops[j]? with
    | some o => lowOp o.op
    | none => false) && Region.seqB .any ops (ops.size - k0) k0 (doneA k0 ops.size)
theorem doneA_get {i m j : Nat} : (doneA i m)[j]? = if j < m then some (decide (j < i)) else none := by
  unfold doneA
  simp only [List.getElem?_toArray, List.getElem?_map]
  by_cases h : j < m
  · rw [if_pos h, List.getElem?_range h]; rfl
  · rw [if_neg h, List.getElem?_eq_none (by simp; omega)]; rfl
theorem doneA_set {i m : Nat} (hi : i < m) : (doneA i m).setIfInBounds i true = doneA (i + 1) m := by
  apply Array.ext_getElem?
  intro j
  rw [Array.getElem?_setIfInBounds, doneA_get, doneA_get]
  have hs : (doneA i m).size = m := by unfold doneA; simp
  by_cases hij : i = j
  · subst hij; simp [hs, hi]
  · rw [if_neg hij]
    by_cases h : j < m
    · rw [if_pos h, if_pos h]
      congr 1
      apply decide_eq_decide.2
      omega
    · rw [if_neg h, if_neg h]
theorem doneA_zero {m : Nat} : Array.replicate m false = doneA 0 m := by
  apply Array.ext_getElem?
  intro j
  rw [doneA_get, Array.getElem?_replicate]
  simp
/-- What each operation leaves. -/
def leaves (r0 B i : Nat) (w w' : World) : Prop := r0 ≤ i ∨ Below B w w'
theorem leaves_pre (r0 B i : Nat) : Pre (leaves r0 B i) :=
  ⟨fun w => .inr (Below.refl _ _), fun h k => by
    rcases h with h | h
    · exact .inl h
    · rcases k with k | k
      · exact .inl k
      · exact .inr (h.trans k)⟩
theorem anyG_seq {F : Fr} {st : List Nat} {ops : Array Oper} {Q : Exit → Act → World → Prop} {r0 B : Nat} (hQ : ∀ σ γ a w, K σ → Rel F σ γ a w → Q .normal a w) :
    ∀ (l : List Oper) (k : Nat) (listed : Array Bool) (σ : St) (γ : Gh) (a : Act) (w : World), (∀ j, l[j]? = ops[k + j]?) → Region.seqB .any ops l.length k listed = true → (∀ j o, l[j]? = some o → r0 ≤ k + j ∨ lowOp o.op = true) → (k < r0 → B ≤ w.heap.size) → Rel F σ γ a w → sopsJ P F.n st ops l σ K → anyG P ops (leaves r0 B) Q l.length listed a w
  | [], _, _, σ, γ, a, w, _, hB, _, _, hr, hs => ⟨by simpa [Region.seqB] using hB, hQ σ γ a w hs hr⟩
  | o :: l, k, listed, σ, γ, a, w, hl, hB, hlow, hsz, hr, hs => by
    have h0 : ops[k]? = some o := by simpa using (hl 0).symm
    simp only [List.length_cons, Region.seqB, Bool.and_eq_true, decide_eq_true_eq] at hB
    refine ⟨fun h1 => (by rw [hB.1] at h1; cases h1), fun i hi => ?_⟩
    rw [hB.1] at hi
    obtain rfl : i = k := by simpa using hi
    have next : ∀ (σ' : St) (γ' : Gh) (a' : Act) (w' : World), (i + 1 < r0 → B ≤ w'.heap.size) → Rel F σ' γ' a' w' → sopsJ P F.n st ops l σ' K → anyG P ops (leaves r0 B) Q l.length (listed.setIfInBounds i true) a' w' := fun σ' γ' a' w' h1 h2 h3 =>
      anyG_seq hQ l (i + 1) _ σ' γ' a' w' (fun j => by have := hl (j + 1); simp only [List.getElem?_cons_succ] at this; rw [this]; congr 1; omega) hB.2 (fun j o' ho' => by have := hlow (j + 1) o' (by simpa using ho'); rcases this with h | h; exact .inl (by omega); exact .inr h) h1 h2 h3
    unfold sopsJ at hs
    unfold wpOp
    rw [h0]
    dsimp only
    have hw0 : ∀ {b : Bool}, guardB ops (look σ.slot) o = some b → Region.wanted o (yielded ops a.tmps) = b := fun hg => guard_ok hr (fun j want t y _ _ hy => hy) hg
    split at hs
    · rename_i hg
      rw [hw0 hg, if_pos rfl]
      refine .inl ?_
      have hwp := sopJ_ok hr hs Q
      by_cases hrk : r0 ≤ i
      · refine Oper.wp_mono (fun a2 w2 hst => ?_) hwp
        obtain ⟨σ', γ', h1, h2⟩ := hst
        exact ⟨.inl hrk, next σ' γ' a2 w2 (fun h => by omega) h2 h1⟩
      · have hlo : lowOp o.op = true := (hlow 0 o rfl).resolve_left (by omega)
        refine Oper.wp_mono (fun a2 w2 hst => ?_) (wp_low hlo hwp)
        obtain ⟨hb, σ', γ', h1, h2⟩ := hst
        have hBw := hsz (by omega)
        exact ⟨.inr (hb.mono hBw), next σ' γ' a2 w2 (fun _ => Nat.le_trans hBw hb.size) h2 h1⟩
    · rename_i hg
      obtain ⟨d, hd, hdn, hs⟩ := hs
      rw [hw0 hg, if_neg (by simp), hd]
      exact ⟨.inr (Below.refl _ _), next _ γ _ w (fun h => hsz (by omega)) (hr.put hdn (x := .v undef) (u := undef) rfl (fun k hk => by cases hk)) hs⟩
    · cases hs
theorem awp_take {F : Fr} {id : Nat} {l : List Oper} {Q : AX → St → Prop} (st : List Nat) (k0 r0 : Nat) (zs : List Bool) (hm : P.follows .mixedOrders = true) (hc : takeB l.toArray k0 r0 zs = true)
    (h : sopsS P F.n (fun σ1 => sopsJ P F.n st l.toArray (l.drop k0) σ1 (Q .normal)) ((l.take k0).zip zs) σ) : AWp P F (Code.region id l.toArray true) Q σ := by
  intro γ a w hr
  simp only [takeB, Bool.and_eq_true, decide_eq_true_eq] at hc
  obtain ⟨⟨⟨⟨⟨c1, c2⟩, c3⟩, c4⟩, c5⟩, c6⟩ := hc
  have hsz : l.toArray.size = l.length := by simp
  rw [hsz] at c3 c5 c6
  refine wp_region_noPanic (wp_region_any hm (anyG_any _ _ _ _ (G := leaves r0 w.drew.heap.size) ?_))
  rw [hsz, doneA_zero]
  have hzl : ((l.take k0).zip zs).length = k0 := by rw [List.length_zip, List.length_take, c4]; omega
  have main : ∀ (m k : Nat), k + m = k0 → ∀ (σ1 : St) (γ1 : Gh) (a1 : Act), Rel F σ1 γ1 a1 w.drew → sopsS P F.n (fun σ1 => sopsJ P F.n st l.toArray (l.drop k0) σ1 (Q .normal)) (((l.take k0).zip zs).drop k) σ1 →
      anyG P l.toArray (leaves r0 w.drew.heap.size) (NoPanic fun e a' w' => ∃ x σ' γ', e = AX.exit_ x ∧ Q x σ' ∧ Rel F σ' γ' a' w') (l.length - k) (doneA k l.length) a1 w.drew := by
    intro m
    induction m with
    | zero =>
      intro k hk σ1 γ1 a1 hr1 hs
      obtain rfl : k = k0 := by omega
      have hdz : ((l.take k).zip zs).drop k = [] := List.drop_of_length_le (by rw [hzl]; exact Nat.le_refl _)
      rw [hdz] at hs
      have := anyG_seq (P := P) (F := F) (st := st) (K := Q .normal) (ops := l.toArray) (Q := NoPanic fun e a' w' => ∃ x σ' γ', e = AX.exit_ x ∧ Q x σ' ∧ Rel F σ' γ' a' w') (r0 := r0) (B := w.drew.heap.size) (fun σ' γ' a' w' hq hr' => ⟨.normal, σ', γ', rfl, hq, hr'⟩) (l.drop k) k (doneA k l.length) σ1 γ1 a1 w.drew (fun j => by simp) (by rw [List.length_drop]; exact c6) (fun j o ho => by
        have ho' : l[k + j]? = some o := by rw [← ho, List.getElem?_drop]
        have hlt := (List.getElem?_eq_some_iff.1 ho').1
        have := List.all_eq_true.1 c5 (k + j) (List.mem_range.2 hlt)
        rw [List.getElem?_toArray, ho'] at this
        simp only [Bool.or_eq_true, decide_eq_true_eq] at this
        rcases this with (h | h) | h
        · omega
        · exact .inl h
        · exact .inr h) (fun _ => Nat.le_refl _) hr1 hs
      rwa [List.length_drop] at this
    | succ m ih =>
      intro k hk σ1 γ1 a1 hr1 hs
      have hkl : k < ((l.take k0).zip zs).length := by omega
      rw [← List.getElem_cons_drop hkl] at hs
      have hkl2 : k < l.length := by omega
      obtain ⟨o, ho⟩ : ∃ o, l[k]? = some o := ⟨l[k], List.getElem?_eq_getElem hkl2⟩
      obtain ⟨z, hz⟩ : ∃ z, zs[k]? = some z := ⟨zs[k]'(by omega), List.getElem?_eq_getElem _⟩
      have hxe : ((l.take k0).zip zs)[k] = (o, z) := by
        have h1 : ((l.take k0).zip zs)[k]? = some (o, z) := by
          rw [List.getElem?_zip_eq_some]
          exact ⟨by rw [List.getElem?_take, if_pos (by omega)]; exact ho, hz⟩
        rw [List.getElem?_eq_getElem hkl] at h1
        exact Option.some.inj h1
      rw [hxe] at hs
      unfold sopsS at hs
      obtain ⟨v, σ', γ', hrun, hK, hr'⟩ := hs F γ1 a1 w.drew rfl hr1
      have hoa : l.toArray[k]? = some o := by rw [List.getElem?_toArray]; exact ho
      have c := List.all_eq_true.1 c1 k (List.mem_range.2 (by omega))
      rw [hoa, hz] at c
      simp only [Bool.and_eq_true, hsz] at c
      obtain ⟨⟨⟨d1, d2⟩, d3⟩, d4⟩ := c
      have hgo : o.guard = none := by simpa using d1
      have hwant : Region.wanted o (yielded l.toArray a1.tmps) = true := by unfold Region.wanted; rw [hgo]
      have hpos : l.length - k = (l.length - (k + 1)) + 1 := by omega
      rw [hpos]
      have hnext := ih (k + 1) (by omega) σ' γ' _ hr' hK
      rw [← doneA_set hkl2] at hnext
      refine anyG_first (L := fun w1 w2 => z = true ∨ Below w.drew.heap.size w1 w2) ⟨fun _ => .inr (Below.refl _ _), fun h1 h2 => ?_⟩ (leaves_pre r0 _) hoa (fun j oj hj hno w1 w2 hg => ?_) (Region.noSelect_spec c2) (fun _ _ _ h => (h : False).elim) _ _ a1 w.drew (Region.free_spec hoa d2) (by simpa using d3) ⟨hwant, fun w' hw' => hrun w' hw'⟩ hnext
      · rcases h1 with h1 | h1
        · exact .inl h1
        · rcases h2 with h2 | h2
          · exact .inl h2
          · exact .inr (h1.trans h2)
      · cases hzz : z with
        | true => exact .inl rfl
        | false =>
          right
          rcases hg with hg | hg
          · rw [hzz] at d4
            simp only [Bool.false_or] at d4
            have hjl : j < l.length := by have := (Array.getElem?_eq_some_iff.1 hj).1; omega
            have := List.all_eq_true.1 d4 j (List.mem_range.2 hjl)
            simp only [Bool.or_eq_true, decide_eq_true_eq] at this
            rcases this with h5 | h5
            · omega
            · obtain ⟨oj', hoj', e, he, hb, hon⟩ := Region.waitsFor_spec h5
              rw [hj] at hoj'
              cases hoj'
              exact absurd hon (hno e he hb)
          · exact hg
  exact main k0 0 (by omega) σ γ a (hr.grow (Below.refl _ _).drew) (by rw [List.drop_zero]; exact h)
end
end Av
end Go.Proofs.YtcloigoajohppaaGreatDoor
/- Steps for plain operations that are taken first; places in lists held as pieces; make of a slice as a piece. Generic. -/
namespace Go.Proofs.YtcloigoajohppaaGreatDoor
open Go.RowKit
namespace Av
section
variable {P : Program} {n d : Nat} {σ : St} {o : Oper} {K : St → Prop} {E : Ext}
theorem sopsS_go {K : St → Prop} {l : List (Oper × Bool)} {z : Bool} (h : HandS P n z σ o (sopsS P n K l)) : sopsS P n K ((o, z) :: l) σ := h
theorem sopsS_end {K : St → Prop} (h : K σ) : sopsS P n K [] σ := h
theorem handS_of {z : Bool} {x : AV} (hd : o.dst = some d) (hdn : d < n) (h : ∀ (F : Fr) (γ : Gh) (a : Act) (w : World), Rel F σ γ a w → ∃ v, (∀ w', (z = true ∨ Below w.heap.size w w') → (execOp a.eval o).run P w' = .ok (.value v) w') ∧ RepA (rdr F.R0 F.w0.heap.size σ γ w) γ.bx x v ∧ ∀ k ∈ x.refs, (look σ.box k).isSome)
    (hK : K (σ.put d x)) : HandS P n z σ o K := fun F γ a w hF hr => by
  obtain ⟨v, h1, h2, h3⟩ := h F γ a w hr
  refine ⟨v, _, γ, h1, hK, ?_⟩
  rw [hd]
  exact hr.put (by rw [hF]; exact hdn) h2 h3
theorem handS_move {x : Operand} {v : AV} (ho : o.op = .move x) (hd : o.dst = some d) (hdn : d < n) (hx : evo (look σ.slot) x = some v) (h : K (σ.put d v)) : HandS P n true σ o K :=
  handS_of hd hdn (fun F γ a w hr => by
    obtain ⟨h1, h2⟩ := evo_ok hr (fun _ _ _ hy => hy) hx
    exact ⟨a.eval x, fun w' _ => by simp [execOp, ho], h1, h2⟩) h
theorem handS_nil {x : Operand} {b off : Nat} (ho : o.op = .nilCheck x) (hd : o.dst = some d) (hdn : d < n) (hx : evo (look σ.slot) x = some (.v (.pointer (some ⟨b, off, none⟩)))) (h : K (σ.put d (.v (.pointer (some ⟨b, off, none⟩))))) : HandS P n true σ o K :=
  handS_of hd hdn (fun F γ a w hr => by
    have e := eval_raw hr hx
    exact ⟨_, fun w' _ => by simp [execOp, ho, e], rfl, fun k hk => by cases hk⟩) h
theorem handS_field {T : TypeId} {x : Operand} {i : Nat} {fs : Array Field} {f : Field} {m b off : Nat} (ho : o.op = .fieldAddr T x i) (hd : o.dst = some d) (hdn : d < n) (hu : P.underlying T = some (.struct fs)) (hf : fs[i]? = some f) (hn : (P.info? f.type).map (·.size) = some (m + 1))
    (hx : evo (look σ.slot) x = some (.v (.pointer (some ⟨b, off, none⟩)))) (h : K (σ.put d (.v (.pointer (some ⟨b, off + f.offset, none⟩))))) : HandS P n true σ o K :=
  handS_of hd hdn (fun F γ a w hr => by
    have e := eval_raw hr hx
    exact ⟨.pointer (some ⟨b, off + f.offset, none⟩), fun w' _ => by simp [execOp, ho, e, run_field_at (P := P) w' T fs f i m b off hu hf hn], rfl, fun k hk => by cases hk⟩) h
theorem handS_index {T e : TypeId} {x ix : Operand} {k : IntKind} {i : Int} {sz : Nat} {rows : List (List PV)} {row : List PV} (ho : o.op = .indexAddr T x ix) (hd : o.dst = some d) (hdn : d < n) (hix : evo (look σ.slot) ix = some (.v (.int k i))) (h2 : 0 ≤ i) (hu : P.underlying T = some (.slice e)) (hx : evo (look σ.slot) x = some (.sl sz rows))
    (h4 : (P.info? e).map (·.size) = some sz) (h5 : rows[i.toNat]? = some row) (h : K (σ.put d (.ept row))) : HandS P n true σ o K :=
  handS_of hd hdn (fun F γ a w hr => by
    have e1 := eval_raw hr hix
    obtain ⟨h6, _⟩ := evo_ok hr (fun _ _ _ hy => hy) hx
    have h6' : RepP _ (.sl sz rows) (a.eval x) := h6
    obtain ⟨j, hj, hs⟩ := info_some h4
    have hlt : i.toNat < rows.length := (List.getElem?_eq_some_iff.1 h5).1
    generalize hv : a.eval x = V at h6'
    cases h6' with
    | sl _ _ _ cap f hsz hA hf hc =>
      rcases hA with h0 | ⟨b, off, rfl, hA⟩
      · rw [h0] at h5; simp at h5
      · have hrl := hsz _ _ h5
        refine ⟨.pointer (some ⟨b, off + i.toNat * sz, none⟩), fun w' _ => ?_, ⟨b, off + i.toNat * sz, (List.range row.length).map (f i.toNat), rfl, ?_, fun q y hy => ?_⟩, fun k hk => by cases hk⟩
        · simp [execOp, ho, hv, e1, Instr.indexAt, run_underlying hu, asIntOf, h2, show i < (rows.length : Int) by omega, sizeOf, typeInfo, hj, hs, Addr.add_lit]
        · refine RepL.of (by simp) fun q p u hp hu' => ?_
          have hq : q < row.length := (List.getElem?_eq_some_iff.1 hp).1
          simp [hq] at hu'
          subst hu'
          exact hf _ row q p h5 hp
        · have hq : q < row.length := by
            rcases Nat.lt_or_ge q row.length with h' | h'
            · exact h'
            · rw [List.getElem?_eq_none (by simpa using h')] at hy; cases hy
          simp [hq] at hy
          subst hy
          exact hA _ row q row[q] h5 (List.getElem?_eq_getElem hq)) h
theorem handS_eLoad {Tv : TypeId} {x : Operand} {b k i : Nat} {vals : List Value} {v : Value} {l : List Ext} {dd : TypeDesc} (ho : o.op = .load Tv x) (hd : o.dst = some d) (hdn : d < n) (hE : σ.ext = E.and (exts l)) (hi : l[i]? = some (rawU b vals))
    (hx : evo (look σ.slot) x = some (.v (.pointer (some ⟨b, k, none⟩)))) (hv : vals[k]? = some v) (hu : P.underlying Tv = some dd) (hdd : dd.isRow = false) (h : K (σ.put d (.v v))) : HandS P n false σ o K :=
  handS_of hd hdn (fun F γ a w hr => by
    have e := eval_raw hr hx
    obtain ⟨T, hbk⟩ : ∃ T, w.heap[b]? = some (.cells vals.toArray T (0, 0)) := hr.piece hE hi
    refine ⟨v, fun w' hw' => ?_, rfl, fun k hk => by cases hk⟩
    have hb := hw'.resolve_left (by simp)
    have hbk' : w'.heap[b]? = some (.cells vals.toArray T (0, 0)) := (hb.block b (Array.getElem?_eq_some_iff.1 hbk).1).trans hbk
    have hc : w'.cell? ⟨b, k, none⟩ = some v := by
      rw [cell_of_row w' _ _ _ T (0, 0) hbk']
      simp [hv]
    simp [execOp, ho, e, run_load_one (P := P) w' b k Tv dd v hc hu hdd]) h
theorem handS_ptLoad {Tv : TypeId} {x : Operand} {p : PV} {row : List PV} {dd : TypeDesc} (ho : o.op = .load Tv x) (hd : o.dst = some d) (hdn : d < n) (hx : evo (look σ.slot) x = some (.ept (p :: row))) (hu : P.underlying Tv = some dd) (hdd : dd.isRow = false) (h : K (σ.put d p.av)) : HandS P n false σ o K :=
  handS_of hd hdn (fun F γ a w hr => by
    obtain ⟨h1, _⟩ := evo_ok hr (fun _ _ _ hy => hy) hx
    obtain ⟨b, off, us, e, h2, h3⟩ := h1
    cases h2 with
    | cons hp ht =>
      rename_i u us
      have hc : w.cell? ⟨b, off, none⟩ = some u := hr.cell (h3 0 u rfl)
      refine ⟨u, fun w' hw' => ?_, hp.av, fun k hk => by cases p <;> cases hk⟩
      have hb := hw'.resolve_left (by simp)
      have hlt : b < w.heap.size := World.block_lt_of_cell? _ _ hc
      have hc' : w'.cell? ⟨b, off, none⟩ = some u := (World.cell?_of_block (w := w) (a := ⟨b, off, none⟩) (hb.block b hlt)).trans hc
      simp [execOp, ho, e, run_load_one (P := P) w' b off Tv dd u hc' hu hdd]) h
/-- A place in a list that is held as a piece. -/
theorem row_slice {F : Fr} {γ : Gh} {a : Act} {w : World} (hr : Rel F σ γ a w) {l : List Ext} {i sz g : Nat} {e : TypeId} {V : Value} {xs : List Value} {rows : List (List PV)} (hE : σ.ext = E.and (exts l)) (hi : l[i]? = some (rowsE e sz (some g) V xs rows)) : ∃ cap, V = .slice (some ⟨g, 0, none⟩) rows.length cap := by
  have h : RowsOK w e sz (some g) V xs rows.length := hr.piece hE hi
  obtain ⟨cap, cur, h1, _⟩ := h.own
  exact ⟨cap, h1⟩
theorem run_rIndex {T e : TypeId} {x ix : Operand} {g j sz m cap : Nat} {ρ : Operand → Value} (ho : o.op = .indexAddr T x ix) (hu : P.underlying T = some (.slice e)) (hs : (P.info? e).map (·.size) = some sz) (hx : ρ x = .slice (some ⟨g, 0, none⟩) m cap) (hix : ρ ix = .int .i64 (j : Int)) (hj : j < m) (w : World) : (execOp ρ o).run P w = .ok (.value (.pointer (some ⟨g, j * sz, none⟩))) w := by
  obtain ⟨i, hi, hs⟩ := info_some hs
  simp [execOp, ho, hx, hix, Instr.indexAt, run_underlying hu, asIntOf, hj, sizeOf, typeInfo, hi, hs, Addr.add_lit]
theorem hand_rIndex {T e e' : TypeId} {x ix : Operand} {l : List Ext} {i sz g j : Nat} {V : Value} {xs : List Value} {rows : List (List PV)} (ho : o.op = .indexAddr T x ix) (hd : o.dst = some d) (hdn : d < n) (hE : σ.ext = E.and (exts l)) (hi : l[i]? = some (rowsE e' sz (some g) V xs rows)) (hx : evo (look σ.slot) x = some (.v V)) (hix : evo (look σ.slot) ix = some (.v (.int .i64 (j : Int)))) (hj : j < rows.length)
    (hu : P.underlying T = some (.slice e)) (hs : (P.info? e).map (·.size) = some sz) (h : K (σ.put d (.v (.pointer (some ⟨g, j * sz, none⟩))))) : Hand P n σ o K :=
  hand_pure hd hdn (fun F γ a w hr => by
    obtain ⟨cap, hV⟩ := row_slice hr hE hi
    exact run_rIndex ho hu hs ((eval_raw hr hx).trans hV) (eval_raw hr hix) hj w) h
theorem handq_rIndex {bx0 : Nat → Option (List PV)} {T e e' : TypeId} {x ix : Operand} {l : List Ext} {i sz g j : Nat} {V : Value} {xs : List Value} {rows : List (List PV)} (ho : o.op = .indexAddr T x ix) (hd : o.dst = some d) (hdn : d < n) (hE : σ.ext = E.and (exts l)) (hi : l[i]? = some (rowsE e' sz (some g) V xs rows)) (hx : evo (look σ.slot) x = some (.v V)) (hix : evo (look σ.slot) ix = some (.v (.int .i64 (j : Int)))) (hj : j < rows.length)
    (hu : P.underlying T = some (.slice e)) (hs : (P.info? e).map (·.size) = some sz) : HandQ P n bx0 σ o d ⟨.v (.pointer (some ⟨g, j * sz, none⟩)), none, none⟩ := by
  intro F σ1 γ a w hF hr hops hb hext Q
  have e1 := eval_raw hr (evo_ops hops (x := x) (by rw [ho]; simp [Op.operands]) hx)
  have e2 := eval_raw hr (evo_ops hops (x := ix) (by rw [ho]; simp [Op.operands]) hix)
  obtain ⟨cap, hV⟩ := row_slice hr (hext.trans hE) hi
  exact pure_ok hr hd (by rw [hF]; exact hdn) (u := .pointer (some ⟨g, j * sz, none⟩)) (run_rIndex ho hu hs (e1.trans hV) e2 hj w) rfl (fun j hj => by cases hj)
/-- The length of such a list, in a drawn head. -/
theorem handq_eLen {bx0 : Nat → Option (List PV)} {x : Operand} {t et : TypeId} {e : TypeId} {sz i : Nat} {q : Option Nat} {V : Value} {xs : List Value} {rows : List (List PV)} {l : List Ext} (ho : o.op = .call { callee := .builtin .len, args := #[x], argTypes := #[t] }) (hd : o.dst = some d) (hdn : d < n) (ht : P.underlying t = some (.slice et)) (hE : σ.ext = E.and (exts l)) (hi : l[i]? = some (rowsE e sz q V xs rows))
    (hx : evo (look σ.slot) x = some (.v V)) : HandQ P n bx0 σ o d ⟨.v (.int .i64 rows.length), none, none⟩ := by
  intro F σ1 γ a w hF hr hops hb hext Q
  have e1 := eval_raw hr (evo_ops hops (x := x) (by rw [ho]; simp [Op.operands, Call.operands]) hx)
  have hrow : RowsOK w e sz q V xs rows.length := hr.piece (hext.trans hE) hi
  have ho2 := hrow.own
  refine pure_ok hr hd (by rw [hF]; exact hdn) (u := .int .i64 rows.length) ?_ rfl (fun j hj => by cases hj)
  cases q with
  | none =>
    obtain ⟨h1, h2⟩ := ho2
    subst h1
    simp only [execOp, ho, resolve, invoke, builtin, List.map_toArray, List.map_cons, List.map_nil, e1]
    simp [Builtin.len_, h2, run_underlying ht, goInt]
  | some g =>
    obtain ⟨cap, cur, h1, _⟩ := ho2
    subst h1
    simp only [execOp, ho, resolve, invoke, builtin, List.map_toArray, List.map_cons, List.map_nil, e1]
    simp [Builtin.len_, run_underlying ht, goInt]
/-- A piece more. -/
theorem turn_more {F : Fr} {γ : Gh} {a : Act} {w w1 : World} {l : List Ext} {X : Ext} (hr : Rel F σ γ a w) (hE : σ.ext = E.and (exts l)) (ht : Turn Ext.nil w w1 X) : Turn σ.ext w w1 (E.and (exts (X :: l))) := by
  have h := Turn.more (fun b hb => (hr.extf b hb).2.1) hr.exth ht
  have he : EqE (σ.ext.and X) (E.and (exts (X :: l))) := by rw [hE]; exact EqE.assoc _ _ _
  exact ⟨h.os, h.tape, h.output, h.size, h.block, (he.holds _).1 h.holds, fun b hb => h.foot b ((he.foot b).2 hb), fun b hb => h.froz b ((he.froz b).2 hb), fun w0 hl => (he.laid w0).1 (h.laid w0 hl), fun R hR => (he.reads R).1 (h.reads R hR), fun p hp => h.veil p ((he.veil p).2 hp)⟩
/-- A slice of zeros is made: a piece more. -/
theorem hand_makeInts {T e : TypeId} {x : Operand} {m : Nat} {l : List Ext} {z : Value} {ti : TypeInfo} (ho : o.op = .makeSlice T x x) (hd : o.dst = some d) (hdn : d < n) (ht : P.underlying T = some (.slice e)) (hi : P.info? e = some ti) (hz : ti.zero = some z) (hs : ti.size = 1) (hzc : z.cells = #[z]) (hby : ti.bytes ≤ 1000000) (hone : z.oneCell' = true) (hE : σ.ext = E.and (exts l))
    (hx : evo (look σ.slot) x = some (.v (.int .i64 (m : Int)))) (hm : m ≤ 1000000)
    (h : ∀ g cap, K (({ σ with ext := E.and (exts (rowsE e 1 (some g) (.slice (some ⟨g, 0, none⟩) m cap) (List.replicate m z) (List.replicate m [.v z]) :: l)) } : St).put d (.v (.slice (some ⟨g, 0, none⟩) m cap)))) : Hand P n σ o K := by
  refine hand_value hd hdn fun F γ a w _ hr => ?_
  have e1 : a.eval x = .int .i64 (m : Int) := eval_raw hr hx
  have hrun := run_makeSlice (P := P) w T e ti z ht hi hz .i64 .i64 (m : Int) (m : Int) (by omega) (Int.le_refl _) (by rw [hs, Int.toNat_natCast]; omega) (by
    have h1 : (ti.bytes : Int) ≤ 1000000 := by omega
    have h2 : (m : Int) ≤ 1000000 := by omega
    calc (ti.bytes : Int) * m ≤ 1000000 * 1000000 := Int.mul_le_mul h1 h2 (by omega) (by omega)
      _ ≤ _ := by decide) (by omega)
  rw [hs, Nat.mul_one, Int.toNat_natCast, hzc] at hrun
  have hmade : madeCells #[z] m = (List.replicate m z).toArray := by
    unfold madeCells
    apply Array.ext
    · simp
    · intro j h1 h2
      simp [Nat.mod_one]
  rw [hmade] at hrun
  refine ⟨.v (.slice (some ⟨w.heap.size, 0, none⟩) m m), .slice (some ⟨w.heap.size, 0, none⟩) m m, w.alloc (.cells (List.replicate m z).toArray e), _, by simp only [execOp, ho, e1, Sem.run_bind, hrun, Result.andThen_ok, Sem.run_pure], turn_more (X := rowsE e 1 (some w.heap.size) (.slice (some ⟨w.heap.size, 0, none⟩) m m) (List.replicate m z) (List.replicate m [.v z])) hr hE ?_, rfl, (fun k hk => by cases hk), h w.heap.size m⟩
  have hnew : (w.alloc (.cells (List.replicate m z).toArray e)).heap[w.heap.size]? = some (.cells (List.replicate m z).toArray e (0, 0)) := heap_alloc_new w _
  refine Turn.below ((Below.refl _ w).alloc (Nat.le_refl _) _) ⟨⟨m, _, by rw [List.length_replicate], Nat.zero_le _, hnew, by rw [List.length_replicate]; exact Nat.le_refl _, by simp only [maxLen]; omega, by simp⟩, by simp, fun g hg j u hu => ?_⟩ (fun b hb => ?_) (fun b hb => hb.elim) (fun _ _ => trivial) (fun R _ => ⟨fun k row hk => ?_, fun k row j p hk hj => ?_⟩)
  · cases hg
    rw [cell_of_row _ _ _ _ e (0, 0) hnew, List.getElem?_toArray]
    exact hu
  · have hb' : some w.heap.size = some b := hb
    cases hb'
    exact .inr ⟨Nat.le_refl _, by simp⟩
  · rw [List.getElem?_replicate] at hk
    split at hk <;> cases hk
    rfl
  · rw [List.getElem?_replicate] at hk
    split at hk
    · rename_i hkm
      cases hk
      have hj0 : j = 0 := by
        have := (List.getElem?_eq_some_iff.1 hj).1
        simp at this
        exact this
      subst hj0
      cases hj
      exact ⟨z, by rw [Nat.mul_one, Nat.add_zero, List.getElem?_replicate, if_pos hkm], .v _ hone⟩
    · cases hk
end
end Av
end Go.Proofs.YtcloigoajohppaaGreatDoor
/- Lists of rows of raw values that the frame holds as pieces; calls of a closure, and of a function's value. Generic. -/
namespace Go.Proofs.YtcloigoajohppaaGreatDoor
open Go.RowKit
namespace Av
theorem flat_get {α : Type} {sz : Nat} : ∀ {l : List (List α)} {k c : Nat} {row : List α} {v : α}, (∀ r ∈ l, r.length = sz) → l[k]? = some row → row[c]? = some v → l.flatten[k * sz + c]? = some v
  | [], _, _, _, _, _, h, _ => by simp at h
  | r :: l, 0, c, row, v, hl, h, hv => by
    simp at h
    subst h
    rw [Nat.zero_mul, Nat.zero_add, List.flatten_cons, List.getElem?_append_left (List.getElem?_eq_some_iff.1 hv).1]
    exact hv
  | r :: l, k + 1, c, row, v, hl, h, hv => by
    rw [List.flatten_cons, List.getElem?_append_right (by rw [hl r List.mem_cons_self, Nat.succ_mul]; omega), hl r List.mem_cons_self, Nat.succ_mul, show k * sz + sz + c - sz = k * sz + c by omega]
    exact flat_get (fun x hx => hl x (List.mem_cons_of_mem _ hx)) (by simpa using h) hv
theorem flat_set {α : Type} {sz : Nat} : ∀ {l : List (List α)} {k c : Nat} {row : List α} {v : α}, (∀ r ∈ l, r.length = sz) → l[k]? = some row → c < sz → (l.set k (row.set c v)).flatten = l.flatten.set (k * sz + c) v
  | [], _, _, _, _, _, h, _ => by simp at h
  | r :: l, 0, c, row, v, hl, h, hc => by
    simp at h
    subst h
    rw [Nat.zero_mul, Nat.zero_add, List.set_cons_zero, List.flatten_cons, List.flatten_cons, List.set_append_left _ _ (by rw [hl r List.mem_cons_self]; exact hc)]
  | r :: l, k + 1, c, row, v, hl, h, hc => by
    rw [List.set_cons_succ, List.flatten_cons, List.flatten_cons, List.set_append_right _ _ (by rw [hl r List.mem_cons_self, Nat.succ_mul]; omega), hl r List.mem_cons_self, Nat.succ_mul, show k * sz + sz + c - sz = k * sz + c by omega]
    rw [flat_set (fun x hx => hl x (List.mem_cons_of_mem _ hx)) (by simpa using h) hc]
/-- Rows of raw values. -/
def rawR (e : TypeId) (sz : Nat) (q : Option Nat) (V : Value) (rvs : List (List Value)) : Ext := rowsE e sz q V rvs.flatten (rvs.map fun r => r.map PV.v)
section
variable {P : Program} {n d : Nat} {σ : St} {o : Oper} {K : St → Prop} {E : Ext} {l : List Ext} {i sz g k c : Nat} {e : TypeId} {V : Value} {rvs : List (List Value)} {row : List Value} {q : Option Nat}
theorem hand_vLoad {Tv : TypeId} {x : Operand} {v : Value} {dd : TypeDesc} (ho : o.op = .load Tv x) (hd : o.dst = some d) (hdn : d < n) (hE : σ.ext = E.and (exts l)) (hi : l[i]? = some (rawR e sz (some g) V rvs)) (hl : ∀ r ∈ rvs, r.length = sz) (hk : rvs[k]? = some row) (hv : row[c]? = some v)
    (hx : evo (look σ.slot) x = some (.v (.pointer (some ⟨g, k * sz + c, none⟩)))) (hu : P.underlying Tv = some dd) (hdd : dd.isRow = false) (h : K (σ.put d (.v v))) : Hand P n σ o K :=
  hand_rLoad ho hd hdn hE hi hx (flat_get hl hk hv) hu hdd h
theorem handq_vLoad {bx0 : Nat → Option (List PV)} {Tv : TypeId} {x : Operand} {v : Value} {dd : TypeDesc} (ho : o.op = .load Tv x) (hd : o.dst = some d) (hdn : d < n) (hE : σ.ext = E.and (exts l)) (hi : l[i]? = some (rawR e sz (some g) V rvs)) (hl : ∀ r ∈ rvs, r.length = sz) (hk : rvs[k]? = some row) (hv : row[c]? = some v)
    (hx : evo (look σ.slot) x = some (.v (.pointer (some ⟨g, k * sz + c, none⟩)))) (hu : P.underlying Tv = some dd) (hdd : dd.isRow = false) : HandQ P n bx0 σ o d ⟨.v v, none, none⟩ :=
  handq_rLoad ho hd hdn hE hi hx (flat_get hl hk hv) hu hdd
theorem hand_vStore {Tv : TypeId} {x y : Operand} {u : Value} (ho : o.op = .store Tv x y) (hd : o.dst = none) (hE : σ.ext = E.and (exts l)) (hi : l[i]? = some (rawR e sz (some g) V rvs)) (hl : ∀ r ∈ rvs, r.length = sz) (hk : rvs[k]? = some row) (hc : c < sz)
    (hx : evo (look σ.slot) x = some (.v (.pointer (some ⟨g, k * sz + c, none⟩)))) (hy : evo (look σ.slot) y = some (.v u)) (hc1 : u.cells = #[u]) (ho1 : u.oneCell' = true) (hn : (P.info? Tv).map (·.size) = some 1)
    (h : K { σ with ext := E.and (exts (l.set i (rawR e sz (some g) V (rvs.set k (row.set c u))))) }) : Hand P n σ o K := by
  refine hand_rStore (row := row.map PV.v) ho hd hE hi hx hy (by rw [List.getElem?_map, hk]; rfl) hc hc1 ho1 hn ?_
  have e1 : rowsE e sz (some g) V (rvs.flatten.set (k * sz + c) u) ((rvs.map fun r => r.map PV.v).set k ((row.map PV.v).set c (.v u))) = rawR e sz (some g) V (rvs.set k (row.set c u)) := by
    unfold rawR
    rw [flat_set hl hk hc, List.map_set, List.map_set]
  rw [e1]
  exact h
theorem hand_vIndex {T e' : TypeId} {x ix : Operand} {j : Nat} (ho : o.op = .indexAddr T x ix) (hd : o.dst = some d) (hdn : d < n) (hE : σ.ext = E.and (exts l)) (hi : l[i]? = some (rawR e sz (some g) V rvs)) (hx : evo (look σ.slot) x = some (.v V)) (hix : evo (look σ.slot) ix = some (.v (.int .i64 (j : Int)))) (hj : j < rvs.length)
    (hu : P.underlying T = some (.slice e')) (hs : (P.info? e').map (·.size) = some sz) (h : K (σ.put d (.v (.pointer (some ⟨g, j * sz, none⟩))))) : Hand P n σ o K :=
  hand_rIndex ho hd hdn hE hi hx hix (by rw [List.length_map]; exact hj) hu hs h
theorem handq_vIndex {bx0 : Nat → Option (List PV)} {T e' : TypeId} {x ix : Operand} {j : Nat} (ho : o.op = .indexAddr T x ix) (hd : o.dst = some d) (hdn : d < n) (hE : σ.ext = E.and (exts l)) (hi : l[i]? = some (rawR e sz (some g) V rvs)) (hx : evo (look σ.slot) x = some (.v V)) (hix : evo (look σ.slot) ix = some (.v (.int .i64 (j : Int)))) (hj : j < rvs.length)
    (hu : P.underlying T = some (.slice e')) (hs : (P.info? e').map (·.size) = some sz) : HandQ P n bx0 σ o d ⟨.v (.pointer (some ⟨g, j * sz, none⟩)), none, none⟩ :=
  handq_rIndex ho hd hdn hE hi hx hix (by rw [List.length_map]; exact hj) hu hs
theorem hand_vLen {x : Operand} {t et : TypeId} (ho : o.op = .call { callee := .builtin .len, args := #[x], argTypes := #[t] }) (hd : o.dst = some d) (hdn : d < n) (ht : P.underlying t = some (.slice et)) (hE : σ.ext = E.and (exts l)) (hi : l[i]? = some (rawR e sz q V rvs))
    (hx : evo (look σ.slot) x = some (.v V)) (h : K (σ.put d (.v (.int .i64 (rvs.length : Int))))) : Hand P n σ o K :=
  hand_eLen ho hd hdn ht hE hi hx (by rw [List.length_map]; exact h)
theorem handq_vLen {bx0 : Nat → Option (List PV)} {x : Operand} {t et : TypeId} (ho : o.op = .call { callee := .builtin .len, args := #[x], argTypes := #[t] }) (hd : o.dst = some d) (hdn : d < n) (ht : P.underlying t = some (.slice et)) (hE : σ.ext = E.and (exts l)) (hi : l[i]? = some (rawR e sz q V rvs))
    (hx : evo (look σ.slot) x = some (.v V)) : HandQ P n bx0 σ o d ⟨.v (.int .i64 (rvs.length : Int)), none, none⟩ := by
  have := handq_eLen (bx0 := bx0) (P := P) ho hd hdn ht hE hi hx
  rwa [List.length_map] at this
/-- One row more. -/
theorem hand_vApp {s x : Operand} {t : TypeId} {vs : List Value}
    (ho : o.op = .call { callee := .builtin .append, args := #[s, x], argTypes := #[t, t] }) (hd : o.dst = some d) (hdn : d < n) (ht : P.underlying t = some (.slice e)) (hinf : infoB P e sz = true)
    (hE : σ.ext = E.and (exts l)) (hi : l[i]? = some (rawR e sz q V rvs)) (hs : evo (look σ.slot) s = some (.v V)) (hx : evo (look σ.slot) x = some (.sl sz [vs.map PV.v])) (hvs : vs.length = sz) (hnm : rvs.length + 1 ≤ 100000000)
    (h : ∀ (g' : Nat) (V' : Value), V'.cells = #[V'] → V'.oneCell' = true → K (({ σ with ext := E.and (exts (l.set i (rawR e sz (some g') V' (rvs ++ [vs])))) } : St).put d (.v V'))) : Hand P n σ o K := by
  obtain ⟨r, h1, h2⟩ := perm_one hi
  have he : EqE σ.ext ((E.and (exts r)).and (rawR e sz q V rvs)) := by
    rw [hE]
    refine (EqE.foc (l2 := [rawR e sz q V rvs]) h1 E).trans ((EqE.refl _).congr ?_)
    exact (EqE.comm _ _).trans (EqE.nil_right _)
  have hfin : ∀ (F : Fr) (γ : Gh) (a : Act) (w : World) (g' : Nat) (V' : Value), Rel F (({ σ with ext := (E.and (exts r)).and (rawR e sz (some g') V' (rvs ++ [vs])) } : St).put d (.v V')) γ a w → ∃ E'', EqE ((E.and (exts r)).and (rawR e sz (some g') V' (rvs ++ [vs]))) E'' ∧ K (({ σ with ext := E'' } : St).put d (.v V')) := fun F γ a w g' V' hr => by
    have hrow : RowsOK w e sz (some g') V' (rvs ++ [vs]).flatten ((rvs ++ [vs]).map fun r => r.map PV.v).length := hr.exth.2.1
    obtain ⟨g1, g2⟩ := ownV_cell hrow.own
    refine ⟨E.and (exts (l.set i (rawR e sz (some g') V' (rvs ++ [vs])))), EqE.symm ?_, h g' V' g1 g2⟩
    refine (EqE.foc (l2 := [rawR e sz (some g') V' (rvs ++ [vs])]) (h2 _) E).trans ((EqE.refl _).congr ?_)
    exact (EqE.comm _ _).trans (EqE.nil_right _)
  refine hand_eqE he (hand_postR (K' := fun σ' => ∃ g' V', σ' = (({ σ with ext := (E.and (exts r)).and (rawR e sz (some g') V' (rvs ++ [vs])) } : St).put d (.v V'))) ?_ ?_)
  rotate_left
  · rintro F γ a w σ' hr ⟨g', V', rfl⟩
    exact hfin F γ a w g' V' hr
  unfold infoB at hinf
  cases h3 : P.info? e with
  | none => rw [h3] at hinf; cases hinf
  | some ti =>
    rw [h3] at hinf
    dsimp only at hinf
    cases h4 : ti.zero with
    | none => rw [h4] at hinf; cases hinf
    | some z =>
      rw [h4] at hinf
      simp only [Bool.and_eq_true, decide_eq_true_eq] at hinf
      obtain ⟨⟨⟨h5, h6⟩, h7⟩, h8⟩ := hinf
      subst h5
      intro F γ a w hF hr Q
      have hext := hr.exth
      obtain ⟨h0, hrow, hdis⟩ := hext
      have hrow : RowsOK w e ti.size q V rvs.flatten (rvs.map fun r => r.map PV.v).length := hrow
      have hrd := hr.extr
      have eV : a.eval s = V := eval_raw hr hs
      obtain ⟨A2, cap2, news, e2, hc2, hl2, hsz2, hz2, h12, hA2⟩ := rows_flat h7 (show RepP _ (.sl ti.size [vs.map PV.v]) (a.eval x) from (evo_ok hr (fun _ _ _ hy => hy) hx).1)
      have hnews : news = vs := by
        apply List.ext_getElem?
        intro j
        rcases Nat.lt_or_ge j vs.length with hj | hj
        · obtain ⟨y, hy, hp⟩ := hz2 0 (vs.map PV.v) j (.v vs[j]) rfl (by rw [List.getElem?_map, List.getElem?_eq_getElem hj]; rfl)
          rw [Nat.zero_mul, Nat.zero_add] at hy
          cases hp
          rw [hy, List.getElem?_eq_getElem hj]
        · rw [List.getElem?_eq_none (by rw [hl2]; simp; omega), List.getElem?_eq_none hj]
      subst hnews
      rw [List.length_map] at hrow
      obtain ⟨v, w1, q', r1, r2, r3, r4, r5, r6, r7, r8, r9, r10⟩ := run_append_av (P := P) w 0 t o.type e ti z ht h3 h4 h6 h7 h8 V rvs.length rvs.flatten q hrow.own hrow.len hrow.at_ A2 1 cap2 news hl2 (by
        rcases hA2 with h1 | ⟨b, off, h1, h2⟩
        · exact .inl (by simp at h1)
        · exact .inr ⟨b, off, h1, fun j x hx => hr.cell (h2 j x hx)⟩) h12 hnm (Nat.zero_le _)
      obtain ⟨g', rfl⟩ : ∃ g', q' = some g' := by
        cases q' with
        | none => have := r2.2; omega
        | some g' => exact ⟨g', rfl⟩
      have hlen : ((rvs ++ [news]).map fun r => r.map PV.v).length = rvs.length + 1 := by simp
      unfold Oper.wp execOp
      have e2' : a.eval x = .slice A2 1 cap2 := e2
      simp only [ho, resolve, invoke, builtin, Sem.run_bind, Sem.run_pure, Result.andThen_ok, List.map_toArray, List.map_cons, List.map_nil, eV, e2', r1]
      show ∃ σ' γ', _ ∧ Rel F σ' γ' (a.put o.dst v) w1
      rw [hd]
      have hfl : (rvs ++ [news]).flatten = rvs.flatten ++ news := by simp
      have hturn : Turn ((E.and (exts r)).and (rawR e ti.size q V rvs)) w w1 ((E.and (exts r)).and (rawR e ti.size (some g') v (rvs ++ [news]))).mute := by
        refine Turn.mute_right (Turn.right (fun b hb => (hr.extf b (hb.elim (fun h => .inl (.inl h)) (fun h => .inr (.inl h)))).2.1) ⟨h0, (show RowsOK w e ti.size q V rvs.flatten (rvs.map fun r => r.map PV.v).length by rw [List.length_map]; exact hrow), hdis⟩ ⟨r7, r8, r9, r10, fun k hk hn => r4 k hk (fun e => hn e), ?_, fun b hb => ?_, fun b hb => hb.elim, fun _ h => h, fun _ _ => trivial, fun p h => h.elim⟩)
        · show RowsOK w1 e ti.size (some g') v (rvs ++ [news]).flatten ((rvs ++ [news]).map fun r => r.map PV.v).length
          rw [hlen, hfl]
          exact ⟨r2, by rw [List.length_append, hrow.len, hvs, Nat.succ_mul], r3⟩
        · rcases r6 with r6 | r6
          · exact .inl (by show q = some b; rw [← r6]; exact hb)
          · have hb' : some g' = some b := hb
            cases hb'
            cases r6
            have : w.heap.size < w1.heap.size := r2.lt.2
            exact .inr ⟨Nat.le_refl _, this⟩
      refine ⟨_, γ, ⟨g', v, rfl⟩, (hr.turnR hturn fun R hR hrdR => ?_).put (by rw [hF]; exact hdn) rfl (fun k hk => by cases hk)⟩
      have hrd2 : RowsRd R ti.size rvs.flatten (rvs.map fun r => r.map PV.v) := hrdR.2
      refine ⟨hrdR.1, fun k row hk => ?_, fun k row j p hk hj => ?_⟩
      · rw [List.map_append] at hk
        rcases Nat.lt_or_ge k rvs.length with hlt | hge
        · rw [List.getElem?_append_left (by simpa using hlt)] at hk; exact hrd2.len k row hk
        · rw [List.getElem?_append_right (by simpa using hge)] at hk
          have hk0 : k - (rvs.map fun r => r.map PV.v).length = 0 := by
            have := (List.getElem?_eq_some_iff.1 hk).1
            simpa using this
          rw [hk0] at hk
          cases hk
          rw [List.length_map]; exact hvs
      · rw [List.map_append] at hk
        rw [hfl]
        rcases Nat.lt_or_ge k rvs.length with hlt | hge
        · rw [List.getElem?_append_left (by simpa using hlt)] at hk
          obtain ⟨x, hx, h1⟩ := hrd2.rd k row j p hk hj
          exact ⟨x, by rw [List.getElem?_append_left (List.getElem?_eq_some_iff.1 hx).1]; exact hx, h1⟩
        · rw [List.getElem?_append_right (by simpa using hge)] at hk
          have hk0 : k - (rvs.map fun r => r.map PV.v).length = 0 := by
            have := (List.getElem?_eq_some_iff.1 hk).1
            simpa using this
          have hkl : k = rvs.length := by rw [List.length_map] at hk0; omega
          rw [hk0] at hk
          cases hk
          rw [List.getElem?_map] at hj
          cases hq : news[j]? with
          | none => rw [hq] at hj; cases hj
          | some y =>
            rw [hq] at hj
            cases hj
            refine ⟨y, ?_, .v y (h12 y (List.mem_of_getElem? hq))⟩
            rw [hkl, ← hrow.len, List.getElem?_append_right (by omega), show rvs.flatten.length + j - rvs.flatten.length = j by omega]
            exact hq
end
section
variable {P : Program} {n d : Nat} {σ : St} {o : Oper} {K : St → Prop}
/-- A call of a closure that looks at one captured variable, and leaves the world. -/
theorem hand_callClo {x y : Operand} {ats : Array TypeId} {f k : Nat} {u c v : Value} (he : Enters P f) (ho : o.op = .call { callee := .value x, args := #[y], argTypes := ats }) (hd : o.dst = some d) (hdn : d < n) (hx : evo (look σ.slot) x = some (.clo f [(k, 0)])) (hy : evo (look σ.slot) y = some (.v u)) (hk : look σ.box k = some [.v c])
    (hc : ∀ (F : Fr) (γ : Gh) (a : Act) (w : World), Rel F σ γ a w → ∀ p, w.cell? p = some c → Calls P f #[u, .pointer (some p)] w fun e w' => e = .returned v ∧ w' = w) (h : K (σ.put d (.v v))) : Hand P n σ o K := by
  refine hand_call hd fun F γ a w hF hr => ?_
  have e1 : a.eval x = .func (.func f) #[] #[.pointer (some ⟨γ.bx k, 0, none⟩)] := (evo_ok hr (fun _ _ _ hy => hy) hx).1
  have e2 := eval_raw hr hy
  refine ⟨f, #[u, .pointer (some ⟨γ.bx k, 0, none⟩)], ?_, ?_⟩
  · simp [execOp, ho, resolve, e1, e2, Deferred.ofValue, invoke, run_callFunc he]
  · obtain ⟨us, h1, h2⟩ := hr.boxcells hk
    cases h1 with
    | cons hp ht =>
      cases hp with
      | v _ h1 =>
      refine (hc F γ a w hr ⟨γ.bx k, 0, none⟩ (h2 0 c rfl)).mono ?_
      rintro e w1 ⟨rfl, rfl⟩
      exact ⟨v, _, γ, rfl, h, hr.put (by rw [hF]; exact hdn) (x := .v v) rfl (fun k hk => by cases hk)⟩
/-- A CALL THAT LENDS X, of a function's value. -/
theorem hand_callXv {ι : Type} {X : Ext} {X' : ι → Ext} {fid : FuncId} {f : Operand} {args : Array Operand} {ats : Array TypeId} {avs : List AV} {C : World → Prop} {res : AV} (hc : FnX P C fid avs X res X') (A : Ext) (hE : σ.ext = A.and X) (hC : ∀ w0, A.laid w0 → C w0)
    (ho : o.op = .call { callee := .value f, args := args, argTypes := ats }) (hf : evo (look σ.slot) f = some (.v (.func (.func fid) #[] #[]))) (hd : o.dst = some d) (hdn : d < n) (hA : evos (look σ.slot) args.toList = some avs) (hp : (avs.all fun x => x.refs.isEmpty) = true)
    (h : ∀ i, K (({ σ with ext := A.and (X' i) } : St).put d res)) : Hand P n σ o K := by
  refine hand_call hd fun F γ a w hF hr => ?_
  have henter := hc.enters
  have hle := lendX_le hr hE
  have hev := evos_ok hr (g := look σ.slot) (fun _ _ _ hy => hy) hA
  obtain ⟨g1, g2⟩ := reps_get hev
  refine ⟨fid, args.map a.eval, ?_, ?_⟩
  · have hf := eval_raw hr hf
    simp [execOp, ho, resolve, hf, Deferred.ofValue, invoke, run_callFunc henter]
  · have hargs : args.map a.eval = (args.toList.map a.eval).toArray := by
      obtain ⟨l⟩ := args
      simp
    rw [hargs]
    refine (hc.calls F (lendA A σ γ a w) (lendG γ []) a w _ hC (hr.lendX hE) (repAL_of g1 fun i m u hm hu => ?_)).mono ?_
    · obtain ⟨u', h1, h2⟩ := g2 i m hm
      rw [hu] at h1
      cases h1
      have hx : m.refs = [] := by simpa using List.all_eq_true.1 hp m (List.mem_of_getElem? hm)
      exact ⟨hx, (RepA.mono (x := m) hle (fun _ _ => rfl) h2).free hx⟩
    · rintro e w1 ⟨u, γf, i, rfl, hf, hres, hrep⟩
      exact ⟨u, _, γ, rfl, h i, (hr.backX hE hf).put (by rw [hF]; exact hdn) ((hrep.free hres).mono backX_le (fun _ _ => rfl)) (fun i hi => by rw [hres] at hi; cases hi)⟩
end
end Av
end Go.Proofs.YtcloigoajohppaaGreatDoor
/- The library's contracts that this claim uses, laid for its program: written by a tool of the kit. -/
namespace Go.Proofs.YtcloigoajohppaaGreatDoor
open Go.Shelf
def Tryz.lays146_ren : Go.Shelf.Ren := ⟨fun | 146 => 53 | 221 => 50 | 268 => 92 | 138 => 38 | 143 => 83 | 195 => 81 | 197 => 121 | 218 => 82 | 219 => 117 | 260 => 135 | 217 => 131 | 225 => 132 | 224 => 133 | 267 => 134 | 266 => 147 | 314 => 148 | n => n, fun | 9 => 9 | 31 => 46 | 3 => 3 | 4 => 4 | 0 => 0 | 105 => 180 | 21 => 21 | 5 => 5 | 46 => 190 | 119 => 207 | 139 => 210 | 138 => 209 | 146 => 205 | 51 => 204 | n => n, fun | 1 => 0 | 3 => 1 | 4 => 2 | n => n⟩
theorem Tryz.lays146 : Go.Proofs.LaysM.n146 Tryz.prog Tryz.lays146_ren := {
  mixed := by kernel_rfl
  f138 := Tryz.func38.trans (congrArg some (by kernel_rfl))
  f143 := Tryz.func83.trans (congrArg some (by kernel_rfl))
  f146 := Tryz.func53.trans (congrArg some (by kernel_rfl))
  f195 := Tryz.func81.trans (congrArg some (by kernel_rfl))
  f197 := Tryz.func121.trans (congrArg some (by kernel_rfl))
  f217 := Tryz.func131.trans (congrArg some (by kernel_rfl))
  f218 := Tryz.func82.trans (congrArg some (by kernel_rfl))
  f219 := Tryz.func117.trans (congrArg some (by kernel_rfl))
  f221 := Tryz.func50.trans (congrArg some (by kernel_rfl))
  f224 := Tryz.func133.trans (congrArg some (by kernel_rfl))
  f225 := Tryz.func132.trans (congrArg some (by kernel_rfl))
  f260 := Tryz.func135.trans (congrArg some (by kernel_rfl))
  f266 := Tryz.func147.trans (congrArg some (by kernel_rfl))
  f267 := Tryz.func134.trans (congrArg some (by kernel_rfl))
  f268 := Tryz.func92.trans (congrArg some (by kernel_rfl))
  f314 := Tryz.func148.trans (congrArg some (by kernel_rfl))
  t0 := Tryz.underlying0
  a0 := Tryz.isAgg0
  z0 := Tryz.sizeOf0
  v0 := Tryz.zeroValue0
  t3 := Tryz.underlying3
  a3 := Tryz.isAgg3
  z3 := Tryz.sizeOf3
  v3 := Tryz.zeroValue3
  t4 := Tryz.underlying4
  a4 := Tryz.isAgg4
  z4 := Tryz.sizeOf4
  v4 := Tryz.zeroValue4
  t5 := Tryz.underlying5
  a5 := Tryz.isAgg5
  z5 := Tryz.sizeOf5
  v5 := Tryz.zeroValue5
  t9 := Tryz.underlying9
  a9 := Tryz.isAgg9
  z9 := Tryz.sizeOf9
  v9 := Tryz.zeroValue9
  t21 := Tryz.underlying21
  a21 := Tryz.isAgg21
  z21 := Tryz.sizeOf21
  v21 := Tryz.zeroValue21
  t31 := Tryz.underlying46
  a31 := Tryz.isAgg46
  z31 := Tryz.sizeOf46
  v31 := Tryz.zeroValue46
  t46 := Tryz.underlying190
  a46 := Tryz.isAgg190
  z46 := Tryz.sizeOf190
  v46 := Tryz.zeroValue190
  t51 := Tryz.underlying204
  a51 := Tryz.isAgg204
  z51 := Tryz.sizeOf204
  v51 := Tryz.zeroValue204
  t105 := Tryz.underlying180
  a105 := Tryz.isAgg180
  z105 := Tryz.sizeOf180
  v105 := Tryz.zeroValue180
  t119 := Tryz.underlying207
  a119 := Tryz.isAgg207
  z119 := Tryz.sizeOf207
  t138 := Tryz.underlying209
  a138 := Tryz.isAgg209
  z138 := Tryz.sizeOf209
  v138 := Tryz.zeroValue209
  t139 := Tryz.underlying210
  a139 := Tryz.isAgg210
  z139 := Tryz.sizeOf210
  v139 := Tryz.zeroValue210
  t146 := Tryz.underlying205
  a146 := Tryz.isAgg205
  z146 := Tryz.sizeOf205
  v146 := Tryz.zeroValue205
  g1 := by kernel_rfl
  g3 := by kernel_rfl
  g4 := by kernel_rfl
  i0 := by kernel_rfl
  i3 := by kernel_rfl
  i4 := by kernel_rfl
  i5 := by kernel_rfl
  i9 := by kernel_rfl
  i21 := by kernel_rfl
  i31 := by kernel_rfl
  i46 := by kernel_rfl
  i51 := by kernel_rfl
  i105 := by kernel_rfl
  i138 := by kernel_rfl
  i139 := by kernel_rfl
  i146 := by kernel_rfl
  m1 := by kernel_rfl
  s1_3 := fun w h => Go.Proofs.cell_of_shapedOpen_int (zero := #[.int .i64 0]) (t := 3) h (of_decide_eq_true (by kernel_rfl)) (by kernel_rfl) rfl (by kernel_rfl) (by kernel_rfl) Tryz.underlying3
  m3 := by kernel_rfl
  m4 := by kernel_rfl }
def Tryz.lays143_ren : Go.Shelf.Ren := ⟨fun | 143 => 83 | 219 => 117 | 217 => 131 | 225 => 132 | 224 => 133 | 267 => 134 | 266 => 147 | 314 => 148 | n => n, fun | 9 => 9 | 3 => 3 | 4 => 4 | 5 => 5 | 46 => 190 | 146 => 205 | 51 => 204 | n => n, fun | 1 => 0 | n => n⟩
theorem Tryz.lays143 : Go.Proofs.LaysM.n143 Tryz.prog Tryz.lays143_ren := {
  mixed := by kernel_rfl
  f143 := Tryz.func83.trans (congrArg some (by kernel_rfl))
  f217 := Tryz.func131.trans (congrArg some (by kernel_rfl))
  f219 := Tryz.func117.trans (congrArg some (by kernel_rfl))
  f224 := Tryz.func133.trans (congrArg some (by kernel_rfl))
  f225 := Tryz.func132.trans (congrArg some (by kernel_rfl))
  f266 := Tryz.func147.trans (congrArg some (by kernel_rfl))
  f267 := Tryz.func134.trans (congrArg some (by kernel_rfl))
  f314 := Tryz.func148.trans (congrArg some (by kernel_rfl))
  t3 := Tryz.underlying3
  a3 := Tryz.isAgg3
  z3 := Tryz.sizeOf3
  v3 := Tryz.zeroValue3
  t4 := Tryz.underlying4
  a4 := Tryz.isAgg4
  z4 := Tryz.sizeOf4
  v4 := Tryz.zeroValue4
  t5 := Tryz.underlying5
  a5 := Tryz.isAgg5
  z5 := Tryz.sizeOf5
  v5 := Tryz.zeroValue5
  t9 := Tryz.underlying9
  a9 := Tryz.isAgg9
  z9 := Tryz.sizeOf9
  v9 := Tryz.zeroValue9
  t46 := Tryz.underlying190
  a46 := Tryz.isAgg190
  z46 := Tryz.sizeOf190
  v46 := Tryz.zeroValue190
  t51 := Tryz.underlying204
  a51 := Tryz.isAgg204
  z51 := Tryz.sizeOf204
  v51 := Tryz.zeroValue204
  t146 := Tryz.underlying205
  a146 := Tryz.isAgg205
  z146 := Tryz.sizeOf205
  v146 := Tryz.zeroValue205
  g1 := by kernel_rfl
  i3 := by kernel_rfl
  i4 := by kernel_rfl
  i5 := by kernel_rfl
  i9 := by kernel_rfl
  i46 := by kernel_rfl
  i51 := by kernel_rfl
  i146 := by kernel_rfl
  m1 := by kernel_rfl
  s1_3 := fun w h => Go.Proofs.cell_of_shapedOpen_int (zero := #[.int .i64 0]) (t := 3) h (of_decide_eq_true (by kernel_rfl)) (by kernel_rfl) rfl (by kernel_rfl) (by kernel_rfl) Tryz.underlying3 }
def Tryz.lays160_ren : Go.Shelf.Ren := ⟨fun | 160 => 54 | 232 => 96 | 231 => 95 | 227 => 97 | 234 => 99 | 233 => 98 | 236 => 101 | 235 => 100 | 228 => 124 | 271 => 126 | 151 => 125 | 197 => 121 | 120 => 137 | 152 => 136 | 260 => 135 | 137 => 149 | 119 => 150 | 224 => 133 | 225 => 132 | 217 => 131 | 266 => 147 | n => n, fun | 9 => 9 | 4 => 4 | 3 => 3 | 5 => 5 | 117 => 154 | 116 => 153 | 0 => 0 | 124 => 157 | 21 => 21 | 105 => 180 | 46 => 190 | 119 => 207 | 139 => 210 | 138 => 209 | n => n, fun | 3 => 1 | 4 => 2 | n => n⟩
theorem Tryz.lays160 : Go.Proofs.Lays.n160 Tryz.prog Tryz.lays160_ren := {
  mixed := by kernel_rfl
  f119 := Tryz.func150.trans (congrArg some (by kernel_rfl))
  f120 := Tryz.func137.trans (congrArg some (by kernel_rfl))
  f137 := Tryz.func149.trans (congrArg some (by kernel_rfl))
  f151 := Tryz.func125.trans (congrArg some (by kernel_rfl))
  f152 := Tryz.func136.trans (congrArg some (by kernel_rfl))
  f160 := Tryz.func54.trans (congrArg some (by kernel_rfl))
  f197 := Tryz.func121.trans (congrArg some (by kernel_rfl))
  f217 := Tryz.func131.trans (congrArg some (by kernel_rfl))
  f224 := Tryz.func133.trans (congrArg some (by kernel_rfl))
  f225 := Tryz.func132.trans (congrArg some (by kernel_rfl))
  f227 := Tryz.func97.trans (congrArg some (by kernel_rfl))
  f228 := Tryz.func124.trans (congrArg some (by kernel_rfl))
  f231 := Tryz.func95.trans (congrArg some (by kernel_rfl))
  f232 := Tryz.func96.trans (congrArg some (by kernel_rfl))
  f233 := Tryz.func98.trans (congrArg some (by kernel_rfl))
  f234 := Tryz.func99.trans (congrArg some (by kernel_rfl))
  f235 := Tryz.func100.trans (congrArg some (by kernel_rfl))
  f236 := Tryz.func101.trans (congrArg some (by kernel_rfl))
  f260 := Tryz.func135.trans (congrArg some (by kernel_rfl))
  f266 := Tryz.func147.trans (congrArg some (by kernel_rfl))
  f271 := Tryz.func126.trans (congrArg some (by kernel_rfl))
  t0 := Tryz.underlying0
  a0 := Tryz.isAgg0
  z0 := Tryz.sizeOf0
  v0 := Tryz.zeroValue0
  t3 := Tryz.underlying3
  a3 := Tryz.isAgg3
  z3 := Tryz.sizeOf3
  v3 := Tryz.zeroValue3
  t4 := Tryz.underlying4
  a4 := Tryz.isAgg4
  z4 := Tryz.sizeOf4
  v4 := Tryz.zeroValue4
  t5 := Tryz.underlying5
  a5 := Tryz.isAgg5
  z5 := Tryz.sizeOf5
  v5 := Tryz.zeroValue5
  t9 := Tryz.underlying9
  a9 := Tryz.isAgg9
  z9 := Tryz.sizeOf9
  v9 := Tryz.zeroValue9
  t21 := Tryz.underlying21
  a21 := Tryz.isAgg21
  z21 := Tryz.sizeOf21
  v21 := Tryz.zeroValue21
  t46 := Tryz.underlying190
  a46 := Tryz.isAgg190
  z46 := Tryz.sizeOf190
  v46 := Tryz.zeroValue190
  t105 := Tryz.underlying180
  a105 := Tryz.isAgg180
  z105 := Tryz.sizeOf180
  v105 := Tryz.zeroValue180
  t116 := Tryz.underlying153
  a116 := Tryz.isAgg153
  z116 := Tryz.sizeOf153
  t117 := Tryz.underlying154
  a117 := Tryz.isAgg154
  z117 := Tryz.sizeOf154
  v117 := Tryz.zeroValue154
  t119 := Tryz.underlying207
  a119 := Tryz.isAgg207
  z119 := Tryz.sizeOf207
  t124 := Tryz.underlying157
  a124 := Tryz.isAgg157
  z124 := Tryz.sizeOf157
  v124 := Tryz.zeroValue157
  t138 := Tryz.underlying209
  a138 := Tryz.isAgg209
  z138 := Tryz.sizeOf209
  v138 := Tryz.zeroValue209
  t139 := Tryz.underlying210
  a139 := Tryz.isAgg210
  z139 := Tryz.sizeOf210
  v139 := Tryz.zeroValue210
  g3 := by kernel_rfl
  g4 := by kernel_rfl }
def Tryz.lays138_ren : Go.Shelf.Ren := ⟨fun | 138 => 38 | 195 => 81 | 218 => 82 | 143 => 83 | 219 => 117 | 217 => 131 | 225 => 132 | 224 => 133 | 267 => 134 | 266 => 147 | 314 => 148 | n => n, fun | 9 => 9 | 3 => 3 | 4 => 4 | 5 => 5 | 0 => 0 | 46 => 190 | 146 => 205 | 51 => 204 | n => n, fun | 1 => 0 | n => n⟩
theorem Tryz.lays138 : Go.Proofs.Lays.n138 Tryz.prog Tryz.lays138_ren := {
  mixed := by kernel_rfl
  f138 := Tryz.func38.trans (congrArg some (by kernel_rfl))
  f143 := Tryz.func83.trans (congrArg some (by kernel_rfl))
  f195 := Tryz.func81.trans (congrArg some (by kernel_rfl))
  f217 := Tryz.func131.trans (congrArg some (by kernel_rfl))
  f218 := Tryz.func82.trans (congrArg some (by kernel_rfl))
  f219 := Tryz.func117.trans (congrArg some (by kernel_rfl))
  f224 := Tryz.func133.trans (congrArg some (by kernel_rfl))
  f225 := Tryz.func132.trans (congrArg some (by kernel_rfl))
  f266 := Tryz.func147.trans (congrArg some (by kernel_rfl))
  f267 := Tryz.func134.trans (congrArg some (by kernel_rfl))
  f314 := Tryz.func148.trans (congrArg some (by kernel_rfl))
  t0 := Tryz.underlying0
  a0 := Tryz.isAgg0
  z0 := Tryz.sizeOf0
  v0 := Tryz.zeroValue0
  t3 := Tryz.underlying3
  a3 := Tryz.isAgg3
  z3 := Tryz.sizeOf3
  v3 := Tryz.zeroValue3
  t4 := Tryz.underlying4
  a4 := Tryz.isAgg4
  z4 := Tryz.sizeOf4
  v4 := Tryz.zeroValue4
  t5 := Tryz.underlying5
  a5 := Tryz.isAgg5
  z5 := Tryz.sizeOf5
  v5 := Tryz.zeroValue5
  t9 := Tryz.underlying9
  a9 := Tryz.isAgg9
  z9 := Tryz.sizeOf9
  v9 := Tryz.zeroValue9
  t46 := Tryz.underlying190
  a46 := Tryz.isAgg190
  z46 := Tryz.sizeOf190
  v46 := Tryz.zeroValue190
  t51 := Tryz.underlying204
  a51 := Tryz.isAgg204
  z51 := Tryz.sizeOf204
  v51 := Tryz.zeroValue204
  t146 := Tryz.underlying205
  a146 := Tryz.isAgg205
  z146 := Tryz.sizeOf205
  v146 := Tryz.zeroValue205
  g1 := by kernel_rfl }
def Tryz.lays100_ren : Go.Shelf.Ren := ⟨fun | 100 => 39 | 207 => 84 | n => n, fun | 9 => 9 | 4 => 4 | 3 => 3 | n => n, fun | n => n⟩
theorem Tryz.lays100 : Go.Proofs.Lays.n100 Tryz.prog Tryz.lays100_ren := {
  mixed := by kernel_rfl
  f100 := Tryz.func39.trans (congrArg some (by kernel_rfl))
  f207 := Tryz.func84.trans (congrArg some (by kernel_rfl))
  t3 := Tryz.underlying3
  a3 := Tryz.isAgg3
  z3 := Tryz.sizeOf3
  v3 := Tryz.zeroValue3
  t4 := Tryz.underlying4
  a4 := Tryz.isAgg4
  z4 := Tryz.sizeOf4
  v4 := Tryz.zeroValue4
  t9 := Tryz.underlying9
  a9 := Tryz.isAgg9
  z9 := Tryz.sizeOf9
  v9 := Tryz.zeroValue9 }
def Tryz.laysC172_ren : Go.Shelf.Ren := ⟨fun | 172 => 102 | 244 => 127 | 245 => 128 | 247 => 138 | 279 => 139 | 280 => 140 | 281 => 141 | 282 => 142 | 287 => 151 | 316 => 152 | 171 => 58 | 205 => 153 | 321 => 159 | 322 => 160 | 243 => 104 | 246 => 129 | 283 => 143 | 284 => 144 | 285 => 145 | 286 => 146 | 129 => 155 | 317 => 154 | 318 => 156 | 319 => 157 | 320 => 158 | 337 => 161 | 338 => 162 | n => n, fun | 9 => 9 | 3 => 3 | 75 => 117 | 76 => 118 | 4 => 4 | 5 => 5 | 167 => 192 | 37 => 56 | 0 => 0 | 85 => 193 | 2 => 2 | 168 => 195 | 53 => 199 | 175 => 212 | 46 => 190 | 210 => 216 | 127 => 128 | 145 => 225 | 143 => 223 | 21 => 21 | 171 => 198 | 173 => 202 | 212 => 219 | 51 => 204 | 20 => 20 | 213 => 220 | 232 => 227 | 233 => 228 | 80 => 58 | n => n, fun | 15 => 3 | 16 => 4 | 17 => 5 | 18 => 6 | 19 => 7 | n => n⟩
theorem Tryz.laysC172 : Go.Proofs.LaysC.n172 Tryz.prog Tryz.laysC172_ren := {
  mixed := by kernel_rfl
  f129 := Tryz.func155.trans (congrArg some (by kernel_rfl))
  f171 := Tryz.func58.trans (congrArg some (by kernel_rfl))
  f172 := Tryz.func102.trans (congrArg some (by kernel_rfl))
  f205 := Tryz.func153.trans (congrArg some (by kernel_rfl))
  f243 := Tryz.func104.trans (congrArg some (by kernel_rfl))
  f244 := Tryz.func127.trans (congrArg some (by kernel_rfl))
  f245 := Tryz.func128.trans (congrArg some (by kernel_rfl))
  f246 := Tryz.func129.trans (congrArg some (by kernel_rfl))
  f247 := Tryz.func138.trans (congrArg some (by kernel_rfl))
  f279 := Tryz.func139.trans (congrArg some (by kernel_rfl))
  f280 := Tryz.func140.trans (congrArg some (by kernel_rfl))
  f281 := Tryz.func141.trans (congrArg some (by kernel_rfl))
  f282 := Tryz.func142.trans (congrArg some (by kernel_rfl))
  f283 := Tryz.func143.trans (congrArg some (by kernel_rfl))
  f284 := Tryz.func144.trans (congrArg some (by kernel_rfl))
  f285 := Tryz.func145.trans (congrArg some (by kernel_rfl))
  f286 := Tryz.func146.trans (congrArg some (by kernel_rfl))
  f287 := Tryz.func151.trans (congrArg some (by kernel_rfl))
  f316 := Tryz.func152.trans (congrArg some (by kernel_rfl))
  f317 := Tryz.func154.trans (congrArg some (by kernel_rfl))
  f318 := Tryz.func156.trans (congrArg some (by kernel_rfl))
  f319 := Tryz.func157.trans (congrArg some (by kernel_rfl))
  f320 := Tryz.func158.trans (congrArg some (by kernel_rfl))
  f321 := Tryz.func159.trans (congrArg some (by kernel_rfl))
  f322 := Tryz.func160.trans (congrArg some (by kernel_rfl))
  f337 := Tryz.func161.trans (congrArg some (by kernel_rfl))
  f338 := Tryz.func162.trans (congrArg some (by kernel_rfl))
  t0 := Tryz.underlying0
  a0 := Tryz.isAgg0
  z0 := Tryz.sizeOf0
  v0 := Tryz.zeroValue0
  t2 := Tryz.underlying2
  a2 := Tryz.isAgg2
  z2 := Tryz.sizeOf2
  v2 := Tryz.zeroValue2
  t3 := Tryz.underlying3
  a3 := Tryz.isAgg3
  z3 := Tryz.sizeOf3
  v3 := Tryz.zeroValue3
  t4 := Tryz.underlying4
  a4 := Tryz.isAgg4
  z4 := Tryz.sizeOf4
  v4 := Tryz.zeroValue4
  t5 := Tryz.underlying5
  a5 := Tryz.isAgg5
  z5 := Tryz.sizeOf5
  v5 := Tryz.zeroValue5
  t9 := Tryz.underlying9
  a9 := Tryz.isAgg9
  z9 := Tryz.sizeOf9
  v9 := Tryz.zeroValue9
  t20 := Tryz.underlying20
  a20 := Tryz.isAgg20
  z20 := Tryz.sizeOf20
  v20 := Tryz.zeroValue20
  t21 := Tryz.underlying21
  a21 := Tryz.isAgg21
  z21 := Tryz.sizeOf21
  v21 := Tryz.zeroValue21
  t37 := Tryz.underlying56
  a37 := Tryz.isAgg56
  z37 := Tryz.sizeOf56
  v37 := Tryz.zeroValue56
  t46 := Tryz.underlying190
  a46 := Tryz.isAgg190
  z46 := Tryz.sizeOf190
  v46 := Tryz.zeroValue190
  t51 := Tryz.underlying204
  a51 := Tryz.isAgg204
  z51 := Tryz.sizeOf204
  v51 := Tryz.zeroValue204
  t53 := Tryz.underlying199
  a53 := Tryz.isAgg199
  z53 := Tryz.sizeOf199
  v53 := Tryz.zeroValue199
  t75 := Tryz.underlying117
  a75 := Tryz.isAgg117
  z75 := Tryz.sizeOf117
  v75 := Tryz.zeroValue117
  t76 := Tryz.underlying118
  a76 := Tryz.isAgg118
  z76 := Tryz.sizeOf118
  v76 := Tryz.zeroValue118
  t85 := Tryz.underlying193
  a85 := Tryz.isAgg193
  z85 := Tryz.sizeOf193
  v85 := Tryz.zeroValue193
  t127 := Tryz.underlying128
  a127 := Tryz.isAgg128
  z127 := Tryz.sizeOf128
  v127 := Tryz.zeroValue128
  t143 := Tryz.underlying223
  a143 := Tryz.isAgg223
  z143 := Tryz.sizeOf223
  v143 := Tryz.zeroValue223
  t145 := Tryz.underlying225
  a145 := Tryz.isAgg225
  z145 := Tryz.sizeOf225
  v145 := Tryz.zeroValue225
  t167 := Tryz.underlying192
  a167 := Tryz.isAgg192
  z167 := Tryz.sizeOf192
  v167 := Tryz.zeroValue192
  t168 := Tryz.underlying195
  a168 := Tryz.isAgg195
  z168 := Tryz.sizeOf195
  v168 := Tryz.zeroValue195
  t171 := Tryz.underlying198
  a171 := Tryz.isAgg198
  z171 := Tryz.sizeOf198
  v171 := Tryz.zeroValue198
  t173 := Tryz.underlying202
  a173 := Tryz.isAgg202
  z173 := Tryz.sizeOf202
  v173 := Tryz.zeroValue202
  t175 := Tryz.underlying212
  a175 := Tryz.isAgg212
  z175 := Tryz.sizeOf212
  v175 := Tryz.zeroValue212
  t210 := Tryz.underlying216
  a210 := Tryz.isAgg216
  z210 := Tryz.sizeOf216
  v210 := Tryz.zeroValue216
  t212 := Tryz.underlying219
  a212 := Tryz.isAgg219
  z212 := Tryz.sizeOf219
  v212 := Tryz.zeroValue219
  t213 := Tryz.underlying220
  a213 := Tryz.isAgg220
  z213 := Tryz.sizeOf220
  t232 := Tryz.underlying227
  a232 := Tryz.isAgg227
  z232 := Tryz.sizeOf227
  v232 := Tryz.zeroValue227
  t233 := Tryz.underlying228
  a233 := Tryz.isAgg228
  z233 := Tryz.sizeOf228
  v233 := Tryz.zeroValue228
  g15 := by kernel_rfl
  g16 := by kernel_rfl
  g17 := by kernel_rfl
  g18 := by kernel_rfl
  g19 := by kernel_rfl
  t80 := Tryz.underlying58
  a80 := Tryz.isAgg58
  z80 := Tryz.sizeOf58
  v80 := Tryz.zeroValue58
  i0 := by kernel_rfl
  i2 := by kernel_rfl
  i3 := by kernel_rfl
  i4 := by kernel_rfl
  i5 := by kernel_rfl
  i9 := by kernel_rfl
  i20 := by kernel_rfl
  i21 := by kernel_rfl
  i37 := by kernel_rfl
  i46 := by kernel_rfl
  i51 := by kernel_rfl
  i53 := by kernel_rfl
  i75 := by kernel_rfl
  i76 := by kernel_rfl
  i80 := by kernel_rfl
  i85 := by kernel_rfl
  i127 := by kernel_rfl
  i143 := by kernel_rfl
  i145 := by kernel_rfl
  i167 := by kernel_rfl
  i168 := by kernel_rfl
  i171 := by kernel_rfl
  i173 := by kernel_rfl
  i175 := by kernel_rfl
  i210 := by kernel_rfl
  i212 := by kernel_rfl
  i232 := by kernel_rfl
  i233 := by kernel_rfl
  m15 := by kernel_rfl
  m16 := by kernel_rfl
  m17 := by kernel_rfl
  m18 := by kernel_rfl
  m19 := by kernel_rfl
  c0 := by kernel_rfl
  c2 := by kernel_rfl
  c3 := by kernel_rfl
  c4 := by kernel_rfl
  c5 := by kernel_rfl
  c9 := by kernel_rfl
  c20 := by kernel_rfl
  c21 := by kernel_rfl
  c37 := by kernel_rfl
  c46 := by kernel_rfl
  c51 := by kernel_rfl
  c53 := by kernel_rfl
  c75 := by kernel_rfl
  c76 := by kernel_rfl
  c80 := by kernel_rfl
  c85 := by kernel_rfl
  c127 := by kernel_rfl
  c143 := by kernel_rfl
  c145 := by kernel_rfl
  c167 := by kernel_rfl
  c168 := by kernel_rfl
  c171 := by kernel_rfl
  c173 := by kernel_rfl
  c175 := by kernel_rfl
  c210 := by kernel_rfl
  c212 := by kernel_rfl
  c213 := by kernel_rfl
  c232 := by kernel_rfl
  c233 := by kernel_rfl }
end Go.Proofs.YtcloigoajohppaaGreatDoor
/- scenario.number, over memory. -/
namespace Go.Proofs.YtcloigoajohppaaGreatDoor
open Go.RowKit
open Av Sc
set_option linter.unusedSimpArgs false
/-- The library's errors. -/
def ErrC (w : World) : Prop := (∃ tp p, w.var? Tryz.prog "strconv.ErrSyntax" = some #[.iface tp p]) ∧ ∃ tp p, w.var? Tryz.prog "strconv.ErrRange" = some #[.iface tp p]
/-- internal/bytealg.MaxLen holds a number. -/
def MaxC (w : World) : Prop := ∃ m, w.cell? ⟨Tryz.lays143_ren.g 1, 0, none⟩ = some (.int .i64 m)
/-- What the library asks of the world. -/
def LC (w : World) : Prop := TabC w ∧ ErrC w ∧ MaxC w
theorem var_below {w w' : World} {name : String} {x : Array Value} (hb : Below w.heap.size w w') (h : w.var? Tryz.prog name = some x) : w'.var? Tryz.prog name = some x := by
  unfold World.var? at h ⊢
  cases hg : Tryz.prog.globalNamed name with
  | none => rw [hg] at h; cases h
  | some g =>
    rw [hg] at h
    simp only [Option.bind_some] at h ⊢
    have hlt : g < w.heap.size := by
      refine Classical.byContradiction fun hn => ?_
      rw [Array.getElem?_eq_none (by omega)] at h
      cases h
    rw [hb.block g hlt]
    exact h
theorem LC.below {w w' : World} (hb : Below w.heap.size w w') (h : LC w) : LC w' := by
  obtain ⟨h1, ⟨⟨a, b, h2⟩, c, d, h3⟩, m, h4⟩ := h
  refine ⟨h1.below hb, ⟨⟨a, b, var_below hb h2⟩, c, d, var_below hb h3⟩, m, ?_⟩
  have hlt : Tryz.lays143_ren.g 1 < w.heap.size := World.block_lt_of_cell? _ _ h4
  rw [← h4]
  exact World.cell?_of_block (hb.block _ hlt)
/-- What scenario.number returns. -/
def numR (s : ByteArray) : Int × Bool :=
  match Lib.atoiAll s.data.toList with
  | .ok v => (v, ((txtI v).toList == s.toList) && (decide (-1099511627776 ≤ v) && decide (v ≤ 1099511627776)))
  | .range => (Lib.atoiSat s.data.toList, false)
  | _ => (0, false)
theorem atoi_ok (s : ByteArray) (hs : s.size ≤ 281474976710656) {v : Int} (h : Lib.atoiAll s.data.toList = .ok v) (w : World) : Calls Tryz.prog 102 #[.string s] w fun e w' => e = .returned (.tuple #[.int .i64 v, .nilIface]) ∧ Below w.heap.size w w' := by
  refine (Any.strconv_Atoi_ok Tryz.laysC172 s (by omega) _ h w).mono ?_
  rintro e w' ⟨rfl, hw⟩
  refine ⟨rfl, ?_⟩
  rcases hw with rfl | ⟨t, rfl⟩
  · exact Below.refl _ _
  · exact Lib.bytesWorld_below _ _ _
theorem atoi_bad (s : ByteArray) (hs : s.size ≤ 281474976710656) (h : ∀ v, Lib.atoiAll s.data.toList ≠ .ok v) (w : World) (hC : LC w) : Calls Tryz.prog 102 #[.string s] w fun e w' => ∃ N tp, e = .returned (.tuple #[.int .i64 (numR s).1, .iface tp (.pointer (some ⟨N, 0, none⟩))]) ∧ Below w.heap.size w w' := by
  obtain ⟨_, ⟨⟨ta, pa, hva⟩, tr, pr, hvr⟩, _⟩ := hC
  cases hk : Lib.atoiAll s.data.toList with
  | ok v => exact absurd hk (h v)
  | range =>
    refine (Any.strconv_Atoi_range_var Tryz.laysC172 s hs hk tr pr w hvr).mono ?_
    rintro e w' ⟨N, rfl, -, -, hb⟩
    exact ⟨_, _, by unfold numR; rw [hk], hb⟩
  | _ =>
    refine (Any.strconv_Atoi_syntax_var Tryz.laysC172 s hs hk ta pa w hva).mono ?_
    rintro e w' ⟨N, rfl, -, -, hb⟩
    exact ⟨_, _, by unfold numR; rw [hk], hb⟩
theorem atoiAll_range {l : List UInt8} {v : Int} (h : Lib.atoiAll l = .ok v) : -9223372036854775808 ≤ v ∧ v ≤ 9223372036854775807 := by
  unfold Lib.atoiAll at h
  split at h
  · cases h
  · dsimp only at h
    split at h
    · cases h
    · cases h
    · split at h
      · cases h
      · split at h
        · cases h
        · cases h
          split <;> omega
theorem itoa_any (v : Int) (h0 : -9223372036854775808 ≤ v) (h1 : v ≤ 9223372036854775807) (w : World) (hC : TabC w) : Calls Tryz.prog 58 #[.int .i64 v] w fun e w' => e = .returned (.string (txtI v)) ∧ Below w.heap.size w w' := by
  refine (Any.strconv_Itoa Tryz.laysM171 v h0 h1 w hC).mono ?_
  rintro e w' ⟨rfl, k, os, rfl⟩
  exact ⟨rfl, below_growT w k os⟩
set_option maxRecDepth 100000 in
set_option maxHeartbeats 1000000 in
theorem number_any (s : ByteArray) (hs : s.size ≤ 281474976710656) (w : World) (hC : LC w) : Calls Tryz.prog 55 #[.string s] w fun e w' => e = .returned (.tuple #[.int .i64 (numR s).1, .bool (numR s).2]) ∧ Below w.heap.size w w' := by
  by_cases hok : ∃ v, Lib.atoiAll s.data.toList = .ok v
  · obtain ⟨v, hv⟩ := hok
    have hr := atoiAll_range hv
    have hn : numR s = (v, ((txtI v).toList == s.toList) && (decide (-1099511627776 ≤ v) && decide (v ≤ 1099511627776))) := by unfold numR; rw [hv]
    rw [hn]
    have HA := Lib.hid fun W => atoi_ok s hs hv W
    have HI := Lib.hid fun W hW => itoa_any v hr.1 hr.2 W hW
    have HT := Lib.hid hC.1
    clear hC hn hv
    generalize txtI v = tv at HI ⊢
    go_enter Tryz.func55, Tryz.ntmps55
    go_wp2_with (go_at_call 102; (with_reducible refine (HA.out _).mono ?_); rintro e w' ⟨rfl, hb1⟩)
    (with_reducible refine (HI.out _ (HT.out.below hb1)).mono ?_)
    rintro e w2 ⟨rfl, hb2⟩
    go_wp2
    all_goals go_ret2
    all_goals (refine ⟨by simp_all <;> omega, hb1.trans (hb2.mono hb1.size)⟩)
  · have hn2 : (numR s).2 = false := by
      unfold numR
      cases hk : Lib.atoiAll s.data.toList with
      | ok v => exact absurd ⟨v, hk⟩ hok
      | range => rfl
      | _ => rfl
    have HB := Lib.hid fun W hW => atoi_bad s hs (fun v h => hok ⟨v, h⟩) W hW
    have HC := Lib.hid hC
    rw [hn2]
    clear hC hn2 hok
    go_enter Tryz.func55, Tryz.ntmps55
    go_wp2_with (go_at_call 102; (with_reducible refine (HB.out _ HC.out).mono ?_); rintro e w' ⟨N, tp, rfl, hb1⟩)
    all_goals go_ret2
    all_goals (exact ⟨by simp, hb1⟩)
theorem number_okC (s : ByteArray) (hs : s.size ≤ 281474976710656) : FnOKC Tryz.prog LC 55 [.v (.string s)] ⟨.tup [.c (ip (numR s).1), .c (.v (.bool (numR s).2))], none⟩ := by
  refine ⟨⟨Tryz.f55, _, Tryz.func55, by kernel_rfl, rfl⟩, fun w R hC hR us hus => ?_⟩
  cases hus with | cons h0 _ hus =>
  cases hus
  rw [h0]
  refine (number_any s hs w hC).mono ?_
  rintro e w' ⟨rfl, hb⟩
  exact ⟨_, rfl, hb, rfl, [_, _], rfl, .cons (.c (.v _ rfl)) (.cons (.c (.v _ rfl)) .nil)⟩
end Go.Proofs.YtcloigoajohppaaGreatDoor
/- Abstract walks under a fence: in a round of a range over a function, and behind such a loop. Generic. -/
namespace Go.Proofs.YtcloigoajohppaaGreatDoor
open Go.RowKit
namespace Av
structure FOK (Fe : Fence) : Prop where
  fn : ∀ f, Fe.fn f
  depth : Fe.depth = none
  calls : ∀ {P : Program} {n : Nat} {f : FuncId} {args : Array Value} {w : World} {R : Ending → World → Prop}, Calls P f args w R → CallsIn Fe n P f args w R
  rows : ∀ {P : Program} {n : Nat} {row : String} {args : Array Value} {w : World} {R : Value → World → Prop}, Rows P row args w R → RowsIn Fe n P row args w R
theorem FOK.wide : FOK Fence.wide :=
  ⟨fun _ => trivial, rfl, fun h => callsIn_wide.2 h, fun h c cs _ => by
    obtain ⟨v, w', h1, h2⟩ := h c cs
    exact ⟨v, w', h1, stepsIn_wide.2 h2⟩⟩
theorem FOK.round (l : Nat) : FOK (Fence.wide.inRound l) :=
  ⟨fun _ => trivial, rfl, fun h => (callsIn_wide.2 h).inRound l, fun h c cs _ => by
    obtain ⟨v, w', h1, h2⟩ := h c cs
    exact ⟨v, w', h1, stepsIn_wide.2 h2⟩⟩
def Act.with (a : Act) (ds : List Deferred) : Act := { a with defers := ds }
section
variable {P : Program} {Fe : Fence} {n : Nat} {ds : List Deferred}
section
variable {F : Fr} {σ : St} {Q : AX → St → Prop}
end
end
/-- Worlds that differ in these blocks alone, and in new ones. -/
structure touch (S : Nat → Prop) (w w' : World) : Prop where
  os : w'.os = w.os
  tape : w'.tape = w.tape
  output : w'.output = w.output
  size : w.heap.size ≤ w'.heap.size
  block : ∀ b, b < w.heap.size → ¬ S b → w'.heap[b]? = w.heap[b]?
section
variable {S : Nat → Prop} {u v w : World}
theorem touch.refl (S : Nat → Prop) (w : World) : touch S w w := ⟨rfl, rfl, rfl, Nat.le_refl _, fun _ _ _ => rfl⟩
theorem touch.trans (h : touch S u v) (k : touch S v w) : touch S u w :=
  ⟨k.os.trans h.os, k.tape.trans h.tape, k.output.trans h.output, Nat.le_trans h.size k.size, fun b hb hs => (k.block b (Nat.lt_of_lt_of_le hb h.size) hs).trans (h.block b hb hs)⟩
theorem touch.mono {S' : Nat → Prop} (h : touch S u v) (hs : ∀ b, b < u.heap.size → S b → S' b) : touch S' u v := ⟨h.os, h.tape, h.output, h.size, fun b hb hn => h.block b hb fun h' => hn (hs b hb h')⟩
theorem touch.setCell (w : World) (a : Addr) (v : Value) (ha : S a.block) : touch S w (w.setCell a v) :=
  ⟨rfl, rfl, rfl, by simp [World.setCell], fun b _ hn => Below.heap_setCell w a v b fun e => hn (by rw [e]; exact ha)⟩
theorem touch.putObj (w : World) (l : Nat) (o : Obj) (hl : S l) : touch S w (w.putObj l o) :=
  ⟨rfl, rfl, rfl, by simp, fun b _ hn => World.putObj_heap_other fun e => hn (by subst e; exact hl)⟩
end
theorem range_law {P : Program} {n : Nat} {g : Operand} {ps : Array Tmp} {assign body : Code} {Q : Exit → Act → World → Prop} {a : Act} {w : World} {gf : Nat} {lb : Array Value} (hg : a.eval g = .func (.func gf) #[] lb) (eg : ∀ args w, (callFunc gf args).run P w = .ok (.enter gf args) w)
    (h : ∀ (fn : FuncId) (W1 : World) (rec : _ → Option Code → Loop), rec = (fun st pe => { state := st, pending := pe, fn, tmps := a.tmps, params := ps, assign, body, defers := w.heap.size }) →
      Below w.heap.size w W1 → W1.heap.size = w.heap.size + 2 → W1.heap[w.heap.size]? = some (.deferred (some [])) → W1.heap[w.heap.size + 1]? = some (.loop (rec .ready none)) →
      CallsIn Fence.wide (n - 1) P gf (#[.func (.yield (w.heap.size + 1)) #[] #[]] ++ lb) W1 (rangePost Fence.wide n P (w.heap.size + 1) Q { a with defers := [{ target := .collected w.heap.size, args := #[] }] ++ a.defers })) :
    (Code.rangeFunc g ps assign body).wpIn Fence.wide n P Q a w := by
  refine wpIn_rangeFunc ?_
  intro fn _
  obtain ⟨W1, hW1⟩ : ∃ W1, (w.alloc (.deferred (some []))).alloc (.loop { state := .ready, pending := none, fn, tmps := a.tmps, params := ps, assign, body, defers := w.heap.size }) = W1 := ⟨_, rfl⟩
  refine ⟨w.heap.size + 1, [{ target := .collected w.heap.size, args := #[] }], W1, { target := .fn (.func gf) lb, args := #[.func (.yield (w.heap.size + 1)) #[] #[]] }, W1, gf, #[.func (.yield (w.heap.size + 1)) #[] #[]] ++ lb, W1, ?_, ?_, fun _ _ => trivial, ?_, (fun h => (by cases h)), ?_⟩
  · rw [← hW1]; exact run_enterLoop_outer _ _ _ _ _
  · simp only [resolve, hg]
    simp [go_sem]
  · simp [invoke, go_sem, eg]
  · refine h fn W1 _ rfl ?_ ?_ ?_ ?_
    · rw [← hW1]; exact ((Below.refl _ w).alloc (Nat.le_refl _) _).alloc (by simp) _
    · rw [← hW1]; simp only [World.size_alloc]
    · rw [← hW1]; exact (Below.heap_alloc _ _ _ (by simp)).trans (World.alloc_heap_new w _)
    · rw [← hW1]; have := World.alloc_heap_new (w.alloc (.deferred (some []))) (.loop { state := .ready, pending := none, fn, tmps := a.tmps, params := ps, assign, body, defers := w.heap.size }); rwa [World.size_alloc] at this
/-- A round's walk: yield, the code that sets the variables, the body. -/
theorem yield_law {P : Program} {m : Nat} {l : Nat} {args : Array Value} {w : World} {R : Ending → World → Prop} {r : Loop} (hl : w.heap[l]? = some (.loop r)) (hr : r.state = .ready) (hs : args.size = r.params.size)
    {A1 : Act} (h : r.assign.wpIn (Fence.wide.inRound l) m P (Exit.then (fun a₁ w₁ => w₁ = w ∧ a₁ = A1) (fun _ _ _ => False)) { tmps := (r.params.zip args).foldl (fun tmps (t, a) => tmps.setIfInBounds t a) r.tmps, defers := [] } w)
    (hb : r.body.wpIn (Fence.wide.inRound l) m P (roundPost P l R) A1 (w.putObj l (.loop { r with state := .busy }))) :
    YieldAt Fence.wide m P l args w R := by
  refine ⟨r.fn, _, r.assign, r.body, run_yield hl hs, roundIn_of_wpIn trivial (wpIn_mono h ?_)⟩
  intro e a1 w1 he
  cases e with
  | normal => exact ⟨_, (by rw [he.1]; exact run_beginRound hl hr), (by rw [he.2]; exact hb)⟩
  | _ => exact he
theorem touch.keep {S : Nat → Prop} {w w' : World} {b : Nat} {o : Obj} (h : touch S w w') (hb : w.heap[b]? = some o) (hn : ¬ S b) : w'.heap[b]? = some o :=
  (h.block b (Array.getElem?_eq_some_iff.1 hb).1 hn).trans hb
/-- Blocks B0 to B1, as they are. -/
def heldE (B0 B1 : Nat) (H : Nat → Option Obj) : Ext where
  foot b := B0 ≤ b ∧ b < B1
  froz _ := False
  holds w := ∀ b, B0 ≤ b → b < B1 → w.heap[b]? = H b
  stable h hw b h0 h1 := (h b (.inl ⟨h0, h1⟩)).trans (hw b h0 h1)
theorem Rel.touched {F : Fr} {σ : St} {γ : Gh} {a : Act} {w w' : World} {A : Ext} {B0 B1 : Nat} {H : Nat → Option Obj} (h : Rel F σ γ a w) (hE : σ.ext = A.and (heldE B0 B1 H)) (ht : touch (fun b => B0 ≤ b ∧ b < B1) w w') :
    Rel F { σ with ext := A.and (heldE B0 B1 fun b => w'.heap[b]?) } γ a w' := by
  refine h.turn ?_
  have hx := h.exth
  rw [hE] at hx ⊢
  refine Turn.right (fun b hb => (h.extf b (by rw [hE]; exact hb.elim (fun h => .inl (.inl h)) (fun h => .inr (.inl h)))).2.1) hx ⟨ht.os, ht.tape, ht.output, ht.size, fun k hk hn => ht.block k hk hn, fun b _ _ => rfl, fun b hb => .inl hb, fun b hb => hb.elim, fun _ h => h, fun _ _ => trivial, fun p h => h.elim⟩
end Av
end Go.Proofs.YtcloigoajohppaaGreatDoor
/- Blocks held as they are, whichever; a frame's state for a walk in exact worlds. Generic. -/
namespace Go.Proofs.YtcloigoajohppaaGreatDoor
open Go.RowKit
namespace Av
/-- These blocks, as they are. -/
def heldS (S : Nat → Prop) (H : Nat → Option Obj) : Ext where
  foot b := S b
  froz _ := False
  holds w := ∀ b, S b → w.heap[b]? = H b
  stable h hw := fun b hb => (h b (.inl hb)).trans (hw b hb)
theorem below_touch {n : Nat} {T : Nat → Prop} {w W W' : World} (h : Below n w W) (ht : touch T W W') (hT : ∀ b, T b → n ≤ b) (hs : n ≤ W.heap.size) : Below n w W' :=
  h.trans ⟨ht.os, ht.tape, ht.output, ht.size, fun b hb => ht.block b (Nat.lt_of_lt_of_le hb hs) fun e => absurd (hT b e) (Nat.not_le.2 hb)⟩
/-- The walk stops here. -/
structure Held (p : Prop) : Prop where
  out : p
theorem hold_store {Fe : Fence} {n : Nat} {P : Program} {ops : Array Oper} {Q : Exit → Act → World → Prop} {rest : List Oper} {a : Act} {w : World} (t : TypeId) {x y : Operand} {ty : TypeId} {pos : String} {after : Array Edge} (h : Held (wpListIn Fe n P ops Q ({ dst := none, op := .store t x y, type := ty, pos := pos, after := after, guard := none } :: rest) a w)) :
    wpListIn Fe n P ops Q ({ dst := none, op := .store t x y, type := ty, pos := pos, after := after, guard := none } :: rest) a w := h.out
theorem store_row_in {Fe : Fence} (hF : FOK Fe) {n : Nat} {P : Program} {ops : Array Oper} {Q : Exit → Act → World → Prop} {rest : List Oper} {o : Oper} {a : Act} {w : World} (hgd : o.guard = none) (ty : TypeId) (x y : Operand) (ho : o.op = .store ty x y)
    (g : Nat) (cells : Array Value) (hx : a.eval x = .pointer (some ⟨g, 0, none⟩)) (hy : a.eval y = .agg cells)
    (t : TypeId) (old : Array Value) (hg : w.heap[g]? = some (.cells old t (0, 0))) (hi : (P.info? ty).map (·.size) = some cells.size)
    (hold : old.size = cells.size) (h1 : cells.all (·.oneCell') = true)
    (h : wpListIn Fe n P ops Q rest (a.put o.dst undef) (w.setRow g cells)) : wpListIn Fe n P ops Q (o :: rest) a w := by
  refine wpListIn_plain hgd fun K hK => ⟨fun f _ => hF.fn f, ?_⟩
  rw [Oper.semAt_eq _ _ _ (fun c => by rw [ho]; simp)]
  unfold execOp
  simp only [ho, hx, hy, Instr.storeAt, Instr.sureAddr, Sem.run_bind, Sem.run_pure, Result.andThen_ok, run_storeVar_row w g t ty old cells hg hi hold h1]
  exact hK _ _ h
theorem setRow_same {w : World} {g : Nat} {cs old : Array Value} {t : TypeId} {fr : Nat × Nat} (h : w.heap[g]? = some (.cells old t fr)) : (w.setRow g cs).heap[g]? = some (.cells cs t fr) := by
  simp [World.setRow, Array.getElem?_modify, h]
theorem setRow_touch (w : World) (g : Nat) (cs : Array Value) {S : Nat → Prop} (hg : S g) : touch S w (w.setRow g cs) :=
  ⟨rfl, rfl, rfl, by simp [World.setRow], fun b _ hn => by
    have : ¬ g = b := fun e => hn (e ▸ hg)
    simp [World.setRow, Array.getElem?_modify, this]⟩
section
variable {F : Fr} {γ : Gh} {a : Act} {w w' : World} {A B : Ext} {S S' : Nat → Prop} {H : Nat → Option Obj}
/-- The state of a walk in exact worlds: what is asked of the first world, the walk's own blocks, what it has lent or made. -/
def exSt (C : World → Prop) (S : Nat → Prop) (w : World) (X : Ext) : St := extSt [] (((laidE C).and (heldS S fun b => w.heap[b]?)).and X)
theorem Rel.touchedS {C : World → Prop} {w0 : World} {X : Ext} (h : Rel F (exSt C S w0 X) γ a w) (ht : touch S w w') : Rel F (exSt C S w' X) γ a w' := by
  refine h.turn ?_
  have hx := h.exth
  refine Turn.left (A := (laidE C).and (heldS S fun b => w0.heap[b]?)) (A' := (laidE C).and (heldS S fun b => w'.heap[b]?)) (fun b hb => (h.extf b (by exact hb.elim (fun h => .inl (.inr h)) (fun h => .inr (.inr h)))).2.1) hx ?_
  refine Turn.right (fun b hb => hb.elim (fun h => h.elim) (fun h => h.elim)) hx.1 ⟨ht.os, ht.tape, ht.output, ht.size, fun k hk hn => ht.block k hk hn, fun b _ => rfl, fun b hb => .inl hb, fun b hb => hb.elim, fun _ h => h, fun _ _ => trivial, fun p h => h.elim⟩
/-- More blocks, new ones, are held so. -/
theorem Rel.moreS {C : World → Prop} {w0 : World} {X : Ext} (h : Rel F (exSt C S w0 X) γ a w) (hb : Below w.heap.size w w') (hS : ∀ b, S' b ↔ S b ∨ (w.heap.size ≤ b ∧ b < w'.heap.size)) : Rel F (exSt C S' w' X) γ a w' := by
  refine h.turn ?_
  have hx := h.exth
  refine Turn.left (A := (laidE C).and (heldS S fun b => w0.heap[b]?)) (A' := (laidE C).and (heldS S' fun b => w'.heap[b]?)) (fun b hb => (h.extf b (by exact hb.elim (fun h => .inl (.inr h)) (fun h => .inr (.inr h)))).2.1) hx ?_
  refine Turn.right (fun b hb => hb.elim (fun h => h.elim) (fun h => h.elim)) hx.1 ⟨hb.os, hb.tape, hb.output, hb.size, fun k hk _ => hb.block k hk, fun b _ => rfl, fun b hb' => ?_, fun b hb => hb.elim, fun _ h => h, fun _ _ => trivial, fun p h => h.elim⟩
  rcases (hS b).1 hb' with h1 | h1
  · exact .inl h1
  · exact .inr h1
/-- A frame that begins in an exact world. -/
theorem Rel.beginS {C : World → Prop} {w0 w : World} {X : Ext} (hC : C w0) (hb : Below w0.heap.size w0 w) (hX : X.holds w) (hl : X.laid w0) (hr : ∀ R, X.reads R) (hS : ∀ b, S b → w0.heap.size ≤ b ∧ b < w.heap.size ∧ ¬ X.all b) (hXf : ∀ b, X.all b → w0.heap.size ≤ b ∧ b < w.heap.size) :
    Rel ⟨fun _ => none, w0, 0⟩ (exSt C S w X) ⟨fun _ => 0, fun _ => none⟩ { tmps := #[], defers := [] } w := by
  refine ⟨rfl, rfl, hb, (fun p v h => by cases h), fun t x hx => (by cases hx), fun k cs hk => (by cases hk), fun k k' hk => (by cases hk), fun L e sz hL => (by cases hL), fun L L' g hL => (by cases hL), fun L k g hL => (by cases hL), ?_, ?_, Nat.zero_le _, fun k hk => (by cases hk), ⟨⟨hC, trivial⟩, hl⟩, ⟨⟨trivial, trivial⟩, hr _⟩⟩
  · refine ⟨⟨trivial, fun b _ => rfl, fun b h1 _ => h1.elim (fun h => h.elim) (fun h => h.elim)⟩, hX, fun b h1 h2 => ?_⟩
    rcases h1 with (h1 | h1) | (h1 | h1)
    · exact h1.elim
    · exact (hS b h1).2.2 h2
    · exact h1.elim
    · exact h1.elim
  · intro b h1
    have key : w0.heap.size ≤ b ∧ b < w.heap.size := by
      rcases h1 with ((h1 | h1) | h1) | ((h1 | h1) | h1)
      · exact h1.elim
      · exact ⟨(hS b h1).1, (hS b h1).2.1⟩
      · exact hXf b (.inl h1)
      · exact h1.elim
      · exact h1.elim
      · exact hXf b (.inr h1)
    exact ⟨key.1, key.2, fun k hk => (by cases hk), fun L hL => (by cases hL)⟩
end
end Av
end Go.Proofs.YtcloigoajohppaaGreatDoor
/- Abstract states: a region that draws its order, its first operations in any order (with effects), the others by hand. Generic. -/
namespace Go.Proofs.YtcloigoajohppaaGreatDoor
open Go.RowKit
namespace Av
section
variable {S : Type} {P : Program} {ops : Array Oper} {Q : Exit → Act → World → Prop}
def depsOf (ops : Array Oper) (i : Nat) : List Nat := match ops[i]? with
  | some o => o.after.toList.filterMap fun e => if Region.binds .any e then some e.on else none
  | none => []
/-- What must have come up ahead of the operations of S, looked for below j. -/
def ancS (ops : Array Oper) : Nat → List Nat → List Nat
  | 0, S => S
  | j + 1, S => ancS ops j (if S.contains j then S ++ depsOf ops j else S)
/-- All operations below m must come up ahead of each other one. -/
def ancB (ops : Array Oper) (m : Nat) : Bool := (List.range ops.size).all fun i => decide (i < m) || (List.range m).all fun j => (ancS ops ops.size (depsOf ops i)).contains j
def Closed (ops : Array Oper) (listed : Array Bool) : Prop := ∀ i, listed.getD i false = true → ∀ j ∈ depsOf ops i, listed.getD j false = true
theorem ancS_closed {listed : Array Bool} (hc : Closed ops listed) : ∀ (j : Nat) (S : List Nat), (∀ x ∈ S, listed.getD x false = true) → ∀ y ∈ ancS ops j S, listed.getD y false = true
  | 0, S, h, y, hy => h y hy
  | j + 1, S, h, y, hy => by
    unfold ancS at hy
    refine ancS_closed hc j _ (fun x hx => ?_) y hy
    split at hx
    · rename_i hj
      rcases List.mem_append.1 hx with hx | hx
      · exact h x hx
      · exact hc j (h j (by simpa using hj)) x hx
    · exact h x hx
theorem ancB_all {m : Nat} (h : ancB ops m = true) {listed : Array Bool} (hc : Closed ops listed) {i : Nat} (hi : i < ops.size) (hm : m ≤ i) (hd : ∀ j ∈ depsOf ops i, listed.getD j false = true) : ∀ j, j < m → listed.getD j false = true := fun j hj => by
  have h1 := List.all_eq_true.1 h i (List.mem_range.2 hi)
  rw [Bool.or_eq_true] at h1
  rcases h1 with h1 | h1
  · have := of_decide_eq_true h1
    omega
  · have h2 := List.all_eq_true.1 h1 j (List.mem_range.2 hj)
    exact ancS_closed hc _ _ hd j (by simpa using h2)
theorem deps_mem {i j : Nat} (h : j ∈ depsOf ops i) : ∃ o, ops[i]? = some o ∧ ∃ e ∈ o.after, Region.binds .any e = true ∧ e.on = j := by
  unfold depsOf at h
  cases ho : ops[i]? with
  | none => rw [ho] at h; cases h
  | some o =>
    rw [ho] at h
    obtain ⟨e, he, h2⟩ := List.mem_filterMap.1 h
    split at h2
    · rename_i hb
      cases h2
      exact ⟨o, rfl, e, by simpa using he, hb, rfl⟩
    · cases h2
section
variable {E : S → S → Prop} {ok : Nat → S → Prop} {app : Nat → S → S}
theorem getD_tf {l : Array Bool} {j : Nat} (hj : j < l.size) : l.getD j true = l.getD j false := by simp [Array.getD, hj]
theorem wpAny_swapT (h : SwapOK ops E ok app) {R : S → Act → World → Prop} (hRE : ∀ {s t a w}, E s t → R s a w → R t a w) {m t : Nat} (hms : m ≤ ops.size) (hanc : ancB ops m = true)
    (hstep : ∀ i, i < m → ∀ s a w, ok i s → R s a w → wpOp P ops Q i (fun a' w' => R (app i s) a' w') a w) {sF : S} (hQ : ∀ a w, R sF a w → wpAny P .any ops Q t (doneA m ops.size) a w) :
    ∀ (n : Nat) (rem : List Nat) (listed : Array Bool) (s : S) (a : Act) (w : World), rem.length = n → rem.Pairwise (· < ·) → listed.size = ops.size → (∀ i, i < m → (listed.getD i true = false ↔ i ∈ rem)) → (∀ i, m ≤ i → i < ops.size → listed.getD i true = false) → Closed ops listed → (∀ i ∈ rem, i < m) →
      R s a w → chainS ok app rem s → E (runS app rem s) sF → wpAny P .any ops Q (n + t) listed a w
  | 0, rem, listed, s, a, w, hn, _, hsz, hrem, htl, _, _, hr, _, hF => by
    obtain rfl := List.eq_nil_of_length_eq_zero hn
    have e : listed = doneA m ops.size := by
      apply Array.ext_getElem?
      intro j
      rw [doneA_get]
      by_cases hj : j < ops.size
      · rw [if_pos hj, Array.getElem?_eq_getElem (by omega)]
        congr 1
        have hjs : j < listed.size := by omega
        by_cases hjm : j < m
        · have h1 : ¬ listed.getD j true = false := fun h => by have := (hrem j hjm).1 h; cases this
          rw [decide_eq_true hjm]
          simpa [Array.getD, hjs] using h1
        · have h1 := htl j (by omega) hj
          rw [decide_eq_false hjm]
          simpa [Array.getD, hjs] using h1
      · rw [if_neg hj, Array.getElem?_eq_none (by omega)]
    rw [e, Nat.zero_add]
    exact hQ a w (hRE hF hr)
  | n + 1, rem, listed, s, a, w, hn, hp, hsz, hrem, htl, hcl, hlt, hr, hc, hF => by
    have hin : ∀ j, j < m → j ∉ rem → listed.getD j false = true := fun j hj hm => by
      cases hq : listed.getD j true with
      | false => exact absurd ((hrem j hj).1 hq) hm
      | true => rw [← getD_tf (by omega)]; exact hq
    have hnil : rem ≠ [] := fun e => by rw [e] at hn; cases hn
    rw [show n + 1 + t = (n + t) + 1 by omega]
    refine ⟨fun h0 => ?_, fun i hi => ?_⟩
    · cases rem with
      | nil => cases hn
      | cons i rem =>
        obtain ⟨hp1, _⟩ := List.pairwise_cons.1 hp
        have hi := hlt i List.mem_cons_self
        have hmem : i ∈ Region.ready .any ops listed := by
          refine mem_ready.2 ⟨(hrem i hi).2 List.mem_cons_self, ops[i], by simp [Nat.lt_of_lt_of_le hi hms], fun e he hb => ?_⟩
          have h4 := h.back i ops[i] (by simp [Nat.lt_of_lt_of_le hi hms]) e he hb
          refine hin e.on (by omega) fun hm => ?_
          rcases List.mem_cons.1 hm with h5 | h5
          · omega
          · have := hp1 _ h5; omega
        rw [h0] at hmem
        cases hmem
    · obtain ⟨h1, o, ho, hall⟩ := mem_ready.1 hi
      have hio := (Array.getElem?_eq_some_iff.1 ho).1
      have hdl : ∀ j ∈ depsOf ops i, listed.getD j false = true := fun j hj => by
        obtain ⟨o', ho', e, he, hb, rfl⟩ := deps_mem hj
        rw [ho] at ho'
        cases ho'
        exact hall e he hb
      by_cases him : i < m
      case neg =>
        -- it may not come up yet
        obtain ⟨j, hj⟩ := List.exists_mem_of_ne_nil rem hnil
        have h9 := ancB_all hanc hcl hio (by omega) hdl j (hlt j hj)
        have h10 := (hrem j (hlt j hj)).2 hj
        rw [getD_tf (by have := hlt j hj; omega), h9] at h10
        cases h10
      have hmem := (hrem i him).1 h1
      obtain ⟨l1, l2, rfl⟩ := List.append_of_mem hmem
      obtain ⟨hp1, hp2, hp3⟩ := List.pairwise_append.1 hp
      obtain ⟨hp4, hp5⟩ := List.pairwise_cons.1 hp2
      have hl1 : ∀ j ∈ l1, j < i ∧ Region.waitsFor .any ops i j = false := fun j hj => by
        refine ⟨hp3 j hj i List.mem_cons_self, ?_⟩
        cases hw : Region.waitsFor .any ops i j with
        | false => rfl
        | true =>
          obtain ⟨oi, hoi, e, he, hb, hon⟩ := Region.waitsFor_spec hw
          rw [ho] at hoi
          cases hoi
          have h5 := hall e he hb
          rw [hon] at h5
          have hjm := hlt j (List.mem_append_left _ hj)
          have h6 := (hrem j hjm).2 (List.mem_append_left _ hj)
          rw [getD_tf (by omega), h5] at h6
          cases h6
      obtain ⟨g1, g2, g3⟩ := h.front hio hl1 hc
      have hni : ∀ j, j ∈ l1 ++ l2 → j ≠ i := fun j hj e => by
        subst e
        rcases List.mem_append.1 hj with h7 | h7
        · exact absurd (hl1 j h7).1 (Nat.lt_irrefl _)
        · exact absurd (hp4 j h7) (Nat.lt_irrefl _)
      refine wpOp_mono (fun a' w' hr' => ?_) (hstep i him s a w g1 hr)
      refine wpAny_swapT (R := R) h hRE hms hanc hstep hQ n (l1 ++ l2) _ (app i s) a' w' ?_ ?_ (by simp [hsz]) (fun j hj => ?_) (fun j hj1 hj2 => ?_) (fun j hj k hk => ?_) (fun j hj => ?_) hr' g2 (h.trans g3 hF)
      · simp at hn ⊢; omega
      · exact List.pairwise_append.2 ⟨hp1, hp5, fun x hx y hy => hp3 x hx y (List.mem_cons_of_mem _ hy)⟩
      · by_cases hji : i = j
        · subst hji
          have hs : i < listed.size := by omega
          constructor
          · intro h8; simp [hs] at h8
          · intro h8; exact absurd rfl (hni i h8)
        · rw [getD_set_ne true hji, hrem j hj]
          simp only [List.mem_append, List.mem_cons]
          constructor
          · rintro (h8 | h8 | h8)
            · exact .inl h8
            · exact absurd h8.symm hji
            · exact .inr h8
          · rintro (h8 | h8)
            · exact .inl h8
            · exact .inr (.inr h8)
      · rw [getD_set_ne true (by omega)]
        exact htl j hj1 hj2
      · have keep : ∀ x, listed.getD x false = true → (listed.setIfInBounds i true).getD x false = true := fun x hx => by
          by_cases hxi : i = x
          · subst hxi
            have hs : i < listed.size := by omega
            simp [hs]
          · rw [getD_set_ne false hxi]; exact hx
        by_cases hji : i = j
        · subst hji
          exact keep k (hdl k hk)
        · rw [getD_set_ne false hji] at hj
          exact keep k (hcl j hj k hk)
      · rcases List.mem_append.1 hj with h8 | h8
        · exact hlt j (List.mem_append_left _ h8)
        · exact hlt j (List.mem_append_right _ (List.mem_cons_of_mem _ h8))
end
end
section
variable {P : Program} {F : Fr} {ops : Array Oper}
theorem RunX.swapT {WB : List Nat} {l : List Oper} {σ σ' : St} {T : List (St × FP × Eff)} (h : RunX P F ops WB l σ T σ') (hb : backB ops = true) (hi : ∀ i j x y, i < j → T[i]? = some x → T[j]? = some y → Region.waitsFor .any ops j i = false → indep x.2.1 y.2.1 = true) : SwapOK ops Eqv (okX WB T) (appX T) := by
  refine ⟨Eqv.refl, Eqv.symm, Eqv.trans, fun he ho x hx => (ho x hx).eqv he, fun {i s t} he => ?_, fun {i j s} hij hj hw hoi hoj => ?_, fun i o ho e he hb' => ?_⟩
  · unfold appX
    cases T[i]? with
    | none => exact he
    | some x => exact x.2.2.eqv he
  · cases hxj : T[j]? with
    | none =>
      have ej : appX T j = id := by funext s; unfold appX; rw [hxj]; rfl
      rw [ej]
      exact ⟨fun z hz => (by rw [hxj] at hz; cases hz), hoi, Eqv.refl _⟩
    | some y =>
    have hj' : j < T.length := (List.getElem?_eq_some_iff.1 hxj).1
    have hxi : T[i]? = some T[i] := List.getElem?_eq_getElem _
    generalize T[i] = x at hxi
    obtain ⟨oi, σi, _, hsi⟩ := h.at hxi
    obtain ⟨oj, σj, _, hsj⟩ := h.at hxj
    have hind := hi i j x y hij hxi hxj hw
    have ei : appX T i = x.2.2.app := by funext s; unfold appX; rw [hxi]
    have ej : appX T j = y.2.2.app := by funext s; unfold appX; rw [hxj]
    have ai := hoi x hxi
    have aj := hoj y hxj
    rw [ei] at aj
    have hind' := hind
    simp only [indep, Bool.and_eq_true] at hind'
    obtain ⟨i1, i2, i3, i4, i5, i6, i7, i8, i9, i10, i11, i12, i13, i14⟩ := hind'
    have i15 : apartN (x.2.1.wb.map (·.1)) y.2.1.nb = true := apartN_symm i11
    have i16 : apartN (y.2.1.wb.map (·.1)) x.2.1.nb = true := apartN_symm i9
    have aj' : Agree WB y.2.1 y.1 s := (Agree.app_iff hsi.fits ai i1 i4 i7 i8 i9 i12 i15).1 aj
    refine ⟨fun z hz => ?_, fun z hz => ?_, ?_⟩
    · rw [hxj] at hz; cases hz; exact aj'
    · rw [hxi] at hz; cases hz
      rw [ej]
      exact (Agree.app_iff hsj.fits aj' i3 i6 i10 (apartN_symm i8) i11 i13 i16).2 ai
    · rw [ei, ej]
      exact app_swap hsi.fits hsj.fits ai aj' hind
  · have h1 := List.all_eq_true.1 hb i (List.mem_range.2 (Array.getElem?_eq_some_iff.1 ho).1)
    rw [ho] at h1
    have h5 := Array.all_eq_true_iff_forall_mem.1 h1 e he
    rw [hb'] at h5
    have h6 : e.on + 1 ≤ i := by simpa [Nat.blt] using h5
    omega
/-- What is checked of such a region. -/
def anyTB (ops : Array Oper) (m : Nat) : Bool := backB ops && ancB ops m && decide (m ≤ ops.size) && Region.seqB .any ops (ops.size - m) m (doneA m ops.size)
theorem awp_anyT {id : Nat} {l : List Oper} {Q : AX → St → Prop} {σ : St} (st WB : List Nat) (X : List (Nat × List Nat)) (m : Nat) (hm : P.follows .mixedOrders = true) (hb : anyTB l.toArray m = true)
    (h : sopsX P F.n st WB X l.toArray (l.take m) σ [] fun σ' fs => indAll l.toArray X (l.take m) fs = true ∧ sopsJ P F.n st l.toArray (l.drop m) σ' (Q .normal)) : AWp P F (Code.region id l.toArray true) Q σ := by
  intro γ a w hr
  simp only [anyTB, Bool.and_eq_true, decide_eq_true_eq] at hb
  obtain ⟨⟨⟨b1, b2⟩, b3⟩, b4⟩ := hb
  obtain ⟨T, σ', gs, hrun, hT, hgl, hind, hQ⟩ := sopsX_run h
  rw [List.append_nil] at hind
  have hlen := hrun.length
  have hsz : l.toArray.size = l.length := by simp
  have hml : (l.take m).length = m := by rw [List.length_take]; omega
  have hsw := hrun.swapT b1 (fun i j x y hij hx hy hw => indAll_spec hind hij (by rw [← hT, List.getElem?_map, hx]; rfl) (by rw [← hT, List.getElem?_map, hy]; rfl) hw)
  obtain ⟨hc1, hc2⟩ := hrun.chain (T0 := T) 0 σ rfl (Eqv.refl σ)
  refine wp_region_noPanic (wp_region_any hm ?_)
  have hfin : ∀ (a : Act) (w : World), (∃ γ, Rel F σ' γ a w) → wpAny P .any l.toArray (NoPanic fun e a' w' => ∃ x σ' γ', e = AX.exit_ x ∧ Q x σ' ∧ Rel F σ' γ' a' w') (l.length - m) (doneA m l.toArray.size) a w := fun a w ⟨γ, hr⟩ => by
    have hdl : (l.drop m).length = l.length - m := List.length_drop
    rw [← hdl]
    refine anyG_any _ _ _ _ (anyG_seq (r0 := 0) (B := 0) (K := Q .normal) (fun σ γ a w hs hr => ?_) (l.drop m) m _ σ' γ a w (fun j => by rw [List.getElem?_drop]; simp) (by rw [hdl, ← hsz]; exact b4) (fun j o _ => .inl (Nat.zero_le _)) (fun h => absurd h (Nat.not_lt_zero _)) hr hQ)
    exact ⟨.normal, σ, γ, rfl, hs, hr⟩
  have e0 : l.toArray.size = m + (l.length - m) := by omega
  have key := wpAny_swapT (P := P) (Q := NoPanic fun e a' w' => ∃ x σ' γ', e = AX.exit_ x ∧ Q x σ' ∧ Rel F σ' γ' a' w') (R := fun s a w => ∃ γ, Rel F s γ a w) (app := appX T) (t := l.length - m) hsw (fun {s t a w} he hr => ?_) b3 b2 (fun i hi s a w hok hr => ?_) (sF := σ') hfin m (List.range' 0 m) (Array.replicate l.toArray.size false) σ a w.drew (by simp) List.pairwise_lt_range' (by simp) (fun i hi => ?_) (fun i h1 h2 => ?_) (fun i hi => ?_) (fun i hi => ?_) ⟨γ, hr.grow (Below.refl _ _).drew⟩ (by rw [hml] at hc1; exact hc1) (by rw [hml] at hc2; exact hc2)
  · rw [← e0] at key
    exact key
  · obtain ⟨γ, hr⟩ := hr
    exact ⟨γ, hr.congr he.1 he.2.1 he.2.2.1 he.2.2.2⟩
  · obtain ⟨γ, hr⟩ := hr
    have hi' : i < T.length := by rw [hlen, hml]; exact hi
    have hx : T[i]? = some T[i] := List.getElem?_eq_getElem hi'
    generalize T[i] = x at hx
    obtain ⟨o, σ1, ho, hs⟩ := hrun.at hx
    have ei : appX T i = x.2.2.app := by funext s; unfold appX; rw [hx]
    rw [ei]
    exact hs.run s γ a w (hok x hx) hr _ i (by rw [List.getElem?_take, if_pos hi] at ho; simpa using ho)
  · have h2 : i < l.length := by omega
    simp [h2, List.mem_range'_1, hi]
  · have h3 : i < l.length := by omega
    simp [h3]
  · exfalso
    by_cases h3 : i < l.length <;> simp [h3] at hi
  · have := List.mem_range'_1.1 hi
    omega
end
end Av
end Go.Proofs.YtcloigoajohppaaGreatDoor
/- What an argument's reading says of its cells, for types made of integers, bools, strings, structs and slices. Generic: no program's numbers. -/
namespace Go.Proofs.YtcloigoajohppaaGreatDoor
open Go.RowKit Go.ChangeShapes Go.WideShapes Go.Deep

/-- Shapes of types; the fields of a struct by 'nil' and 'cons'. -/
inductive Ty where
  | int (k : IntKind)
  | bool
  | str
  | slice (e : Ty)
  | struct (l : Ty)
  | nil
  | cons (a l : Ty)

def Ty.cells : Ty → Nat
  | .int _ | .bool | .str | .slice _ => 1
  | .struct l => l.cells
  | .nil => 0
  | .cons a l => a.cells + l.cells

mutual
def Ty.fits (P : Program) : Ty → TypeId → Bool
  | .int k, t => match P.underlying t with
    | some (.int k') => decide (k = k')
    | _ => false
  | .bool, t => match P.underlying t with
    | some .bool => true
    | _ => false
  | .str, t => match P.underlying t with
    | some .string => true
    | _ => false
  | .slice e, t => match P.underlying t with
    | some (.slice u) => e.fits P u && P.cellsOf u == e.cells
    | _ => false
  | .struct l, t => match P.underlying t with
    | some (.struct fs) => l.fitsF P fs.toList 0
    | _ => false
  | .nil, _ => false
  | .cons _ _, _ => false
def Ty.fitsF (P : Program) : Ty → List Field → Nat → Bool
  | .nil, [], _ => true
  | .cons a l, f :: fs, off => f.offset == off && (P.cellsOf f.type == a.cells && (a.fits P f.type && l.fitsF P fs (off + a.cells)))
  | _, _, _ => false
end

/-- The cells cs hold a value of that shape. -/
def Ty.holds (w : World) : Ty → List Value → Prop
  | .int k, cs => ∃ n, cs = [.int k n] ∧ (Lit.int k n).wf = true
  | .bool, cs => ∃ b, cs = [.bool b]
  | .str, cs => ∃ s : ByteArray, cs = [.string s] ∧ s.size ≤ maxLen
  | .slice e, cs => ∃ A n c, cs = [.slice A n c] ∧ n ≤ c ∧ c ≤ maxLen ∧ (A = none → n = 0) ∧ ∀ a, A = some a → ∀ i, i < n → ∃ es, es.length = e.cells ∧ e.holds w es ∧ ∀ j u, es[j]? = some u → w.cell? (a.add (i * e.cells + j)) = some u
  | .struct l, cs => l.holds w cs
  | .nil, _ => True
  | .cons a l, cs => a.holds w (cs.take a.cells) ∧ l.holds w (cs.drop a.cells)

section
variable {H : Type} {enc : TypeId × Value → H} {P : Program} {w : World} {base : Nat} {spare : Nat → Bool} {held : Bool}

theorem add_add_ (a : Addr) (i j : Nat) : (a.add i).add j = a.add (i + j) := (Go.Deep.add_add a i j)

mutual
theorem Ty.holds_of : ∀ (τ : Ty) (t : TypeId) (fuel : Nat) (cs : List Value) (x : DataW H × List MemPlace), τ.fits P t = true → DataW.trod enc P w base spare held fuel t cs = some x → τ.holds w cs
  | .int k, t, fuel, cs, x, hf, h => by
    simp only [Ty.fits] at hf
    split at hf
    · rename_i k' hu
      obtain rfl : k = k' := by simpa using hf
      obtain ⟨n, e, _, hw⟩ := DataW.trod_int hu h
      exact ⟨n, e, hw⟩
    · cases hf
  | .bool, t, fuel, cs, x, hf, h => by
    simp only [Ty.fits] at hf
    split at hf
    · rename_i hu
      obtain ⟨n, e, _⟩ := DataW.trod_bool hu h
      exact ⟨n, e⟩
    · cases hf
  | .str, t, fuel, cs, x, hf, h => by
    simp only [Ty.fits] at hf
    split at hf
    · rename_i hu
      obtain ⟨n, e, _, hl⟩ := DataW.trod_string hu h
      exact ⟨n, e, hl⟩
    · cases hf
  | .slice e, t, fuel, cs, x, hf, h => by
    simp only [Ty.fits] at hf
    split at hf
    · rename_i u hu
      simp only [Bool.and_eq_true, beq_iff_eq] at hf
      obtain ⟨hfe, hce⟩ := hf
      rcases open_slice hu h with ⟨rfl, _⟩ | ⟨a, len, cap, m, n, D, Pl, rfl, hb, hl, hm, hmm, _, hel⟩
      · exact ⟨none, 0, 0, rfl, Nat.le_refl _, Nat.zero_le _, fun _ => rfl, fun a ha => by cases ha⟩
      · refine ⟨some a, len, cap, rfl, hl, hm, fun h0 => (by cases h0), fun a' ha i hi => ?_⟩
        cases ha
        have him : i < m := by rw [hmm]; split <;> omega
        obtain ⟨cs', hc, ht⟩ := hel i him
        rw [hce] at hc
        obtain ⟨_, hlen, hat⟩ := World.cells?_some hc
        refine ⟨cs', hlen, Ty.holds_of e u n cs' _ hfe ht, fun j v hv => ?_⟩
        have hj : j < e.cells := by rw [← hlen]; exact (List.getElem?_eq_some_iff.1 hv).1
        have := hat j hj
        rw [add_add_] at this
        rw [this, hv]
    · cases hf
  | .struct l, t, fuel, cs, x, hf, h => by
    simp only [Ty.fits] at hf
    split at hf
    · rename_i fs hu
      obtain ⟨xs, n, _, _, _, hlen, hff⟩ := DataW.trod_struct hu h
      have := Ty.holds_ofF l fs.toList 0 cs n hf (fun f hm => by
        obtain ⟨i, hi, e⟩ := List.getElem_of_mem hm
        have hi' : i < fs.size := by simpa using hi
        have h1 : fs[i]? = some f := by rw [Array.getElem?_eq_getElem hi']; simpa using e
        have h2 := hff i f h1
        rw [List.getElem?_eq_getElem (by omega)] at h2
        exact ⟨_, h2⟩)
      simpa [Ty.holds] using this
    · cases hf
  | .nil, _, _, _, _, hf, _ => by simp [Ty.fits] at hf
  | .cons _ _, _, _, _, _, hf, _ => by simp [Ty.fits] at hf
theorem Ty.holds_ofF : ∀ (l : Ty) (fs : List Field) (off : Nat) (cs : List Value) (n : Nat), l.fitsF P fs off = true → (∀ f ∈ fs, ∃ y, DataW.trod enc P w base spare held n f.type ((cs.drop f.offset).take (P.cellsOf f.type)) = some y) → l.holds w (cs.drop off)
  | .nil, _, _, _, _, _, _ => by simp [Ty.holds]
  | .cons a l, [], _, _, _, hf, _ => by simp [Ty.fitsF] at hf
  | .cons a l, f :: fs, off, cs, n, hf, h => by
    simp only [Ty.fitsF, Bool.and_eq_true, beq_iff_eq] at hf
    obtain ⟨h1, h2, h3, h4⟩ := hf
    obtain ⟨y, hy⟩ := h f List.mem_cons_self
    rw [h1, h2] at hy
    refine ⟨Ty.holds_of a f.type n _ _ h3 hy, ?_⟩
    rw [List.drop_drop]
    exact Ty.holds_ofF l fs (off + a.cells) cs n h4 fun g hg => h g (List.mem_cons_of_mem _ hg)
  | .int _, _, _, _, _, hf, _ => by simp [Ty.fitsF] at hf
  | .bool, _, _, _, _, hf, _ => by simp [Ty.fitsF] at hf
  | .str, _, _, _, _, hf, _ => by simp [Ty.fitsF] at hf
  | .slice _, _, _, _, _, hf, _ => by simp [Ty.fitsF] at hf
  | .struct _, _, _, _, _, hf, _ => by simp [Ty.fitsF] at hf
end

theorem Ty.holds_trod {τ : Ty} {t : TypeId} {v : Value} {d : DataW H} {p : List MemPlace} (hf : τ.fits P t = true) (h : DataW.Trod enc P w base spare held t v d p) : τ.holds w v.cells.toList := by
  obtain ⟨fuel, h⟩ := h
  exact Ty.holds_of τ t fuel _ _ hf h
end

theorem cell_lt {w : World} {a : Addr} {u : Value} (h : w.cell? a = some u) : a.block < w.heap.size ∧ a.spot = none := by
  unfold World.cell? at h
  split at h
  · rename_i c t fr hh
    refine ⟨?_, ?_⟩
    · rcases Nat.lt_or_ge a.block w.heap.size with h' | h'
      · exact h'
      · rw [Array.getElem?_eq_none h'] at hh; cases hh
    · split at h
      · cases h
      · rename_i hs
        cases hsp : a.spot with
        | none => rfl
        | some s => rw [hsp] at hs; simp at hs
  · cases h

/-- A list out of what is known of each index. -/
theorem list_of {α : Type} {Q : Nat → α → Prop} : ∀ (n : Nat), (∀ i, i < n → ∃ x, Q i x) → ∃ l : List α, l.length = n ∧ ∀ i x, l[i]? = some x → Q i x
  | 0, _ => ⟨[], rfl, fun i x h => by simp at h⟩
  | n + 1, h => by
    obtain ⟨l, hl, hq⟩ := list_of n fun i hi => h i (by omega)
    obtain ⟨x, hx⟩ := h n (by omega)
    refine ⟨l ++ [x], by simp [hl], fun i y hy => ?_⟩
    rcases Nat.lt_or_ge i n with hi | hi
    · rw [List.getElem?_append_left (by omega)] at hy
      exact hq i y hy
    · rw [List.getElem?_append_right (by omega)] at hy
      obtain rfl : i = n := by
        rcases Nat.lt_or_ge (i - l.length) 1 with h1 | h1
        · omega
        · rw [List.getElem?_eq_none (by simpa using h1)] at hy; cases hy
      rw [hl, Nat.sub_self] at hy
      simp at hy
      subst hy
      exact hx

end Go.Proofs.YtcloigoajohppaaGreatDoor
/- A line is written. -/
namespace Go.Proofs.YtcloigoajohppaaGreatDoor
open Go.RowKit
open Av
open Sc
set_option maxRecDepth 100000
set_option linter.unusedSimpArgs false
attribute [local go_sem] Av.guardB Av.sop Av.hopx Av.hop Av.hopCall Av.hopF Av.hopB Av.evo Av.evos Av.avCells Av.loadK Av.bound Av.abin Av.aun Av.partsC Av.lfill Av.placesB Av.setAt Av.stl Av.takes Av.src Av.bxOf Av.ownOf Av.St.res Av.St.put Av.St.addBox Av.St.putOwn Av.delL Av.delS Av.look Av.lookL Av.storeSt Av.stealSt Av.St.setBox Av.keepL Av.hitB Av.snap Av.snaps Av.snapCaps Av.AV.lit Av.AV.refs Av.capRefs Av.PV.av Av.CV.av Av.startSt Av.steals Av.athen Av.ablock Av.appK Av.AllS Av.AllO Av.AllR Av.keepS Av.St.avAt Av.RetOK Av.retAll Av.retOne Av.intsOf Av.ptrB TypeDesc.isRow List.range_zero Option.some.injEq exists_eq_left' exists_eq_left exists_eq' exists_and_left exists_and_right exists_const true_and and_true and_self false_and and_false or_false false_or or_true true_or if_true if_false Bool.false_eq_true List.zipIdx_cons List.zipIdx_nil List.map_cons List.map_nil List.filter_cons List.filter_nil List.contains_cons List.contains_nil List.drop_succ_cons List.drop_zero List.take_succ_cons List.take_zero List.take_nil List.drop_nil List.length_cons List.length_nil List.cons_append List.nil_append List.append_nil List.getElem?_cons_zero List.getElem?_cons_succ List.getElem?_nil Option.bind_some Option.bind_none Option.map_some Option.map_none Option.isNone_none Option.isNone_some Option.isSome_some Option.isSome_none Bool.and_true Bool.true_and Bool.and_false Bool.false_and Bool.or_false Bool.false_or Bool.not_true Bool.not_false beq_true beq_false Bool.true_beq Bool.false_beq Loc.s.injEq Loc.b.injEq decide_true decide_false beq_self_eq_true Nat.zero_add Nat.add_zero List.getElem?_toArray List.toList_toArray List.size_toArray Value.oneCell' List.all_cons List.all_nil Value.int.injEq AV.v.injEq AV.sl.injEq AV.agg.injEq AV.ref.injEq AV.ept.injEq AV.tup.injEq Value.bool.injEq PV.v.injEq PV.sl.injEq List.isEmpty_nil List.isEmpty_cons forall_const not_true_eq_false not_false_eq_true true_implies false_implies Value.string.injEq List.length_map List.getElem?_map Int.toNat_natCast Int.natCast_nonneg List.length_append Value.cells implies_true TypeDesc.struct.injEq TypeDesc.slice.injEq TypeDesc.array.injEq List.getElem?_toArray Prod.mk.injEq and_assoc exists_false List.cons.injEq Operand.tmp.injEq ite_self AV.fnv.injEq AV.clo.injEq ne_eq eq_self Tryz.sz3 Tryz.zr3 Tryz.by3 Tryz.pl3 Tryz.is3 Tryz.underlying3 Tryz.sz4 Tryz.zr4 Tryz.by4 Tryz.pl4 Tryz.is4 Tryz.underlying4 Tryz.sz9 Tryz.zr9 Tryz.by9 Tryz.pl9 Tryz.is9 Tryz.underlying9 Tryz.sz5 Tryz.zr5 Tryz.by5 Tryz.pl5 Tryz.is5 Tryz.underlying5 Tryz.sz56 Tryz.zr56 Tryz.by56 Tryz.pl56 Tryz.is56 Tryz.underlying56 Tryz.sz24 Tryz.zr24 Tryz.by24 Tryz.pl24 Tryz.is24 Tryz.underlying24 Tryz.sz70 Tryz.zr70 Tryz.by70 Tryz.pl70 Tryz.is70 Tryz.underlying70 Tryz.sz69 Tryz.zr69 Tryz.by69 Tryz.pl69 Tryz.is69 Tryz.underlying69 Tryz.sz72 Tryz.zr72 Tryz.by72 Tryz.pl72 Tryz.is72 Tryz.underlying72 Tryz.sz74 Tryz.zr74 Tryz.by74 Tryz.pl74 Tryz.is74 Tryz.underlying74 Tryz.sz117 Tryz.zr117 Tryz.by117 Tryz.pl117 Tryz.is117 Tryz.underlying117 Tryz.sz182 Tryz.zr182 Tryz.by182 Tryz.pl182 Tryz.is182 Tryz.underlying182 all_arr loc_ss loc_sb loc_bs loc_bb arr_two arr_one rg1 rg2 rg3 rg4 rg5 rg6 rg7 rg8 ResultVar.tmp.injEq Bool.not_true Bool.not_false undef Fn.func.injEq Av.extSt Av.RetX List.zipIdx List.getD_cons_zero List.getD_cons_succ List.set_cons_zero
theorem lineB_ge (word : ByteArray) (ns : List Int) : ns.length ≤ (lineB word ns).length := by
 have h : ∀ ns : List Int, ns.length ≤ (ns.flatMap fun n => 32 :: Lib.itoa n).length := fun ns => by
  induction ns with
  | nil => simp
  | cons a l ih => simp only [List.flatMap_cons, List.length_append, List.length_cons]; omega
 have := h ns
 unfold lineB
 rw [List.length_append]
 omega
theorem lineB_succ {word : ByteArray} {ns : List Int} {k : Nat} {d : Int} (h : ns[k]? = some d) : lineB word (ns.take (k + 1)) = lineB word (ns.take k) ++ (⟨#[32]⟩ ++ txtI d : ByteArray).data.toList := by
 unfold lineB txtI
 rw [List.take_add_one, h, Option.toList_some, List.flatMap_append]
 simp
theorem lineB_len_succ {word : ByteArray} {ns : List Int} {k : Nat} {d : Int} (h : ns[k]? = some d) : (lineB word (ns.take k)).length + (⟨#[32]⟩ ++ txtI d : ByteArray).size ≤ (lineB word ns).length := by
 have e := ba_size (⟨#[32]⟩ ++ txtI d)
 have h2 : (lineB word (ns.take (k + 1))).length ≤ (lineB word ns).length := by
  have : ns = ns.take (k + 1) ++ ns.drop (k + 1) := (List.take_append_drop _ _).symm
  conv => rhs; rw [this]
  unfold lineB
  simp only [List.flatMap_append, List.length_append]
  omega
 rw [lineB_succ h, List.length_append] at h2
 omega
theorem any_take_succ {α : Type} {p : α → Bool} {l : List α} {k : Nat} {d : α} (h : l[k]? = some d) : (l.take (k + 1)).any p = ((l.take k).any p || p d) := by
 rw [List.take_add_one, h, Option.toList_some, List.any_append]
 simp
set_option maxHeartbeats 2000000 in
theorem wline_okX (b : Nat) (st bd : Bool) (l : List UInt8) (V : Value) (word : ByteArray) (ns : List Int) (hn : ∀ n ∈ ns, -9223372036854775808 ≤ n ∧ n ≤ 9223372036854775807) (hlen : l.length + (lineB word ns).length + 1 ≤ 140737488355328) :
 FnX Tryz.prog TabC 29 [.v (wrP b), .v (.string word), .sl 1 (ns.map fun n => [ip n])] (wrE b (st, l, bd) V) (.tup []) (fun V' => wrE b (true, l ++ lineB word ns ++ [10], bd || ns.any farB) V') := by
 refine fn_okX Tryz.func29 (by kernel_rfl) rfl (by rw [Tryz.ntmps29]; exact of_decide_eq_true rfl) (fun F E hF hC => ?_)
 rw [Tryz.ntmps29] at hF
 rw [Tryz.results29]
 simp only [go_sem, simprocAttr, hF]
 repeat (first
  | ((refine hand_rawField rfl rfl (by decide) Tryz.underlying74 rfl (m := 1) rfl rfl ?_); simp only [go_sem, simprocAttr, hF, Av.sopJ])
  | (with_reducible refine sops_go ?_; simp only [go_sem, simprocAttr, hF])
  | with_reducible refine awp_seq_k fun _ _ => ?_
  | (with_reducible refine awp_region (id := 0) [1000010, 1000012, 1000022, 1000023, 1000033, 1000036, 1000038, 1000040, 1000044, 1000045] ?_))
 refine hand_callX (writeString_okX TabC b st bd l V word (by simp [lineB] at hlen; omega)) E rfl hC rfl rfl (by decide) rfl rfl (fun V1 => ?_)
 simp only [go_sem, simprocAttr, hF]
 repeat (first
  | ((first | with_reducible refine sops_go ?_ | with_reducible refine sops_end ?_); simp only [go_sem, simprocAttr, hF])
  | with_reducible refine awp_seq_k fun _ _ => ?_
  | (with_reducible refine awp_region (id := 1) [1000010, 1000012, 1000022, 1000023, 1000033, 1000036, 1000038, 1000040, 1000044, 1000045] ?_)
  | (with_reducible refine awp_block ?_)
  | go_step)
 refine awp_loop_by (ι := {k : Nat // k ≤ ns.length} × Value) (fun k σ => ⟨(15, iv (k.1.1 : Int)) :: keepS [0, 13, 14] σ.slot, σ.box, [], E.and (wrE b (true, l ++ lineB word (ns.take k.1.1), bd || (ns.take k.1.1).any farB) k.2)⟩) (fun k => ns.length - k.1.1) (⟨0, Nat.zero_le _⟩, V1) (sub_mk ?_) (fun R hR k => ?_)
 · simp only [go_sem, simprocAttr, hF]
   repeat' (first | rfl | refine ⟨?_, ?_⟩ | (simp [lineB]; done))
 obtain ⟨⟨k, hk⟩, V2⟩ := k
 have hge := lineB_ge word ns
 dsimp only
 simp only [go_sem, simprocAttr, hF]
 by_cases hlt : k < ns.length
 case neg =>
  have hd : decide ((k : Int) < (ns.length : Int)) = false := decide_eq_false (by omega)
  obtain rfl : k = ns.length := by omega
  rw [List.take_length]
  repeat (first
   | ((refine hand_rawField rfl rfl (by decide) Tryz.underlying74 rfl (m := 1) rfl rfl ?_); simp only [go_sem, simprocAttr, hF, hd, Av.sopJ])
   | ((first | with_reducible refine sops_go ?_ | with_reducible refine sops_end ?_ | with_reducible refine awp_if ?_ | with_reducible refine awp_exit ?_); simp only [go_sem, simprocAttr, hF, hd])
   | with_reducible refine awp_seq_k fun _ _ => ?_
   | (with_reducible refine awp_region (id := 2) [1000010, 1000012, 1000022, 1000023, 1000033, 1000036, 1000038, 1000040, 1000044, 1000045] ?_)
   | (with_reducible refine awp_region (id := 7) [1000010, 1000012, 1000022, 1000023, 1000033, 1000036, 1000038, 1000040, 1000044, 1000045] ?_)
   | go_step)
  refine hand_callX (writeByte_okX TabC b true _ _ V2 10 (by rw [List.length_append]; omega)) E rfl hC rfl rfl (by decide) rfl rfl (fun V3 => ?_)
  simp only [go_sem, simprocAttr, hF]
  repeat ((with_reducible refine sops_end ?_; simp only [go_sem, simprocAttr, hF]))
  exact ⟨_, rfl⟩
 obtain ⟨d, hdk⟩ := get_of_lt hlt
 have hd : decide ((k : Int) < (ns.length : Int)) = true := decide_eq_true (by omega)
 have hw : IntKind.i64.wrap ((k : Int) + 1) = ((k + 1 : Nat) : Int) := by rw [IntKind.wrap_i64]; omega
 have hdr := hn d (List.mem_of_getElem? hdk)
 have hl5 := lineB_len_succ (word := word) hdk
 have hl6 : (l ++ lineB word (ns.take k)).length + (⟨#[32]⟩ ++ txtI d : ByteArray).size ≤ 140737488355328 := by rw [List.length_append]; omega
 have h7 : (⟨#[32]⟩ ++ txtI d : ByteArray).size = 1 + (txtI d).size := by rw [ByteArray.size_append]; rfl
 have hz : (1 + (txtI d).size ≤ 9223372036854775807) = True := eq_true (by omega)
 have hta := any_take_succ (p := farB) hdk
 have htb := lineB_succ (word := word) hdk
 generalize hB : (bd || (ns.take k).any farB) = B
 cases B with
 | true =>
  repeat (first
   | ((first | refine hand_rawField rfl rfl (by decide) Tryz.underlying74 rfl (m := 0) rfl rfl ?_ | refine hand_bldLoad (k := 0) (dd := .bool) rfl rfl (by decide) rfl rfl rfl Tryz.underlying4 rfl ?_ | refine hand_bldStore (k := 0) rfl rfl rfl rfl rfl (Nat.zero_lt_succ _) rfl rfl Tryz.sz4 ?_); simp only [go_sem, simprocAttr, hF, hd, hdk, hz, Av.sopJ])
   | ((with_reducible refine sopsJ_go ?_); simp only [go_sem, simprocAttr, hF, hd, hdk, hz, Av.sopJ])
   | ((with_reducible refine sopsJ_end ?_); simp only [go_sem, simprocAttr, hF, hd, hdk, hz, Av.sopJ])
   | ((refine awp_regionJ (id := 4) [1000010, 1000012, 1000022, 1000023, 1000033, 1000036, 1000038, 1000040, 1000044, 1000045] ?_); simp only [go_sem, simprocAttr, hF, hd, hdk, hz, Av.sopJ])
   | ((first | refine ⟨_, handq_rawField rfl rfl (by decide) Tryz.underlying74 rfl (m := 1) rfl rfl, rfl, ?_⟩ | refine ⟨_, handq_fnL TabC.below rfl rfl (by decide) (fun w0 h => hC w0 h.1) rfl rfl (fun _ => rfl) (itoa_okC d hdr.1 hdr.2), rfl, ?_⟩); simp only [go_sem, simprocAttr, hF, hbx])
   | ((first | with_reducible refine sops_go ?_ | with_reducible refine headW_end ?_ | with_reducible refine sops_end ?_ | with_reducible refine awp_if ?_ | with_reducible refine awp_skip ?_); simp only [go_sem, simprocAttr, hF, hd, hdk, hz])
   | ((with_reducible refine headW_go ?_); simp only [go_sem, simprocAttr, hF, hd, hdk, hz, hbx])
   | with_reducible refine awp_seq_k fun _ _ => ?_
   | (refine awp_draw' (id := 5) [1000010, 1000012, 1000022, 1000023, 1000033, 1000036, 1000038, 1000040, 1000044, 1000045] 6 (by kernel_rfl) (by kernel_rfl) rfl rfl (fun bx0 hbx => ?_); try dsimp only [List.take, List.drop])
   | (with_reducible refine awp_region (id := 2) [1000010, 1000012, 1000022, 1000023, 1000033, 1000036, 1000038, 1000040, 1000044, 1000045] ?_)
   | (with_reducible refine awp_region (id := 3) [1000010, 1000012, 1000022, 1000023, 1000033, 1000036, 1000038, 1000040, 1000044, 1000045] ?_)
   | (with_reducible refine awp_block ?_)
   | go_step)
  refine hand_callX (writeString_okX TabC b true true (l ++ lineB word (ns.take k)) V2 (⟨#[32]⟩ ++ txtI d) hl6) E rfl hC rfl rfl (by decide) rfl rfl (fun V3 => ?_)
  simp only [go_sem, simprocAttr, hF]
  repeat (first
   | ((first | with_reducible refine sops_go ?_ | with_reducible refine sops_end ?_); simp only [go_sem, simprocAttr, hF, hd, hdk, hw])
   | (with_reducible refine awp_region (id := 6) [1000010, 1000012, 1000022, 1000023, 1000033, 1000036, 1000038, 1000040, 1000044, 1000045] ?_)
   | go_step)
  refine ⟨(⟨k + 1, hlt⟩, V3), by dsimp only; omega, hR _ _ (sub_mk ?_)⟩
  simp only [go_sem, simprocAttr, hF]
  symm
  show E.and (wrE b (true, (l ++ lineB word (ns.take k)) ++ (⟨#[32]⟩ ++ txtI d : ByteArray).data.toList, true) V3) = E.and (wrE b (true, l ++ lineB word (ns.take (k + 1)), bd || (ns.take (k + 1)).any farB) V3)
  rw [htb, hta, ← Bool.or_assoc, hB, ← List.append_assoc]
  try simp [farB]
 | false =>
  cases hc1 : decide (d < -1099511627776) with
  | true =>
   repeat (first
    | ((first | refine hand_rawField rfl rfl (by decide) Tryz.underlying74 rfl (m := 0) rfl rfl ?_ | refine hand_bldLoad (k := 0) (dd := .bool) rfl rfl (by decide) rfl rfl rfl Tryz.underlying4 rfl ?_ | refine hand_bldStore (k := 0) rfl rfl rfl rfl rfl (Nat.zero_lt_succ _) rfl rfl Tryz.sz4 ?_); simp only [go_sem, simprocAttr, hF, hd, hdk, hc1, hz, Av.sopJ])
    | ((with_reducible refine sopsJ_go ?_); simp only [go_sem, simprocAttr, hF, hd, hdk, hc1, hz, Av.sopJ])
    | ((with_reducible refine sopsJ_end ?_); simp only [go_sem, simprocAttr, hF, hd, hdk, hc1, hz, Av.sopJ])
    | ((refine awp_regionJ (id := 4) [1000010, 1000012, 1000022, 1000023, 1000033, 1000036, 1000038, 1000040, 1000044, 1000045] ?_); simp only [go_sem, simprocAttr, hF, hd, hdk, hc1, hz, Av.sopJ])
    | ((first | refine ⟨_, handq_rawField rfl rfl (by decide) Tryz.underlying74 rfl (m := 1) rfl rfl, rfl, ?_⟩ | refine ⟨_, handq_fnL TabC.below rfl rfl (by decide) (fun w0 h => hC w0 h.1) rfl rfl (fun _ => rfl) (itoa_okC d hdr.1 hdr.2), rfl, ?_⟩); simp only [go_sem, simprocAttr, hF, hbx])
    | ((first | with_reducible refine sops_go ?_ | with_reducible refine headW_end ?_ | with_reducible refine sops_end ?_ | with_reducible refine awp_if ?_ | with_reducible refine awp_skip ?_); simp only [go_sem, simprocAttr, hF, hd, hdk, hc1, hz])
    | ((with_reducible refine headW_go ?_); simp only [go_sem, simprocAttr, hF, hd, hdk, hc1, hz, hbx])
    | with_reducible refine awp_seq_k fun _ _ => ?_
    | (refine awp_draw' (id := 5) [1000010, 1000012, 1000022, 1000023, 1000033, 1000036, 1000038, 1000040, 1000044, 1000045] 6 (by kernel_rfl) (by kernel_rfl) rfl rfl (fun bx0 hbx => ?_); try dsimp only [List.take, List.drop])
    | (with_reducible refine awp_region (id := 2) [1000010, 1000012, 1000022, 1000023, 1000033, 1000036, 1000038, 1000040, 1000044, 1000045] ?_)
    | (with_reducible refine awp_region (id := 3) [1000010, 1000012, 1000022, 1000023, 1000033, 1000036, 1000038, 1000040, 1000044, 1000045] ?_)
    | (with_reducible refine awp_block ?_)
    | go_step)
   refine hand_callX (writeString_okX TabC b true true (l ++ lineB word (ns.take k)) V2 (⟨#[32]⟩ ++ txtI d) hl6) E rfl hC rfl rfl (by decide) rfl rfl (fun V3 => ?_)
   simp only [go_sem, simprocAttr, hF]
   repeat (first
    | ((first | with_reducible refine sops_go ?_ | with_reducible refine sops_end ?_); simp only [go_sem, simprocAttr, hF, hd, hdk, hw])
    | (with_reducible refine awp_region (id := 6) [1000010, 1000012, 1000022, 1000023, 1000033, 1000036, 1000038, 1000040, 1000044, 1000045] ?_)
    | go_step)
   refine ⟨(⟨k + 1, hlt⟩, V3), by dsimp only; omega, hR _ _ (sub_mk ?_)⟩
   simp only [go_sem, simprocAttr, hF]
   symm
   show E.and (wrE b (true, (l ++ lineB word (ns.take k)) ++ (⟨#[32]⟩ ++ txtI d : ByteArray).data.toList, true) V3) = E.and (wrE b (true, l ++ lineB word (ns.take (k + 1)), bd || (ns.take (k + 1)).any farB) V3)
   rw [htb, hta, ← Bool.or_assoc, hB, ← List.append_assoc]
   try simp [farB, hc1]
  | false =>
   repeat (first
    | ((first | refine hand_rawField rfl rfl (by decide) Tryz.underlying74 rfl (m := 0) rfl rfl ?_ | refine hand_bldLoad (k := 0) (dd := .bool) rfl rfl (by decide) rfl rfl rfl Tryz.underlying4 rfl ?_ | refine hand_bldStore (k := 0) rfl rfl rfl rfl rfl (Nat.zero_lt_succ _) rfl rfl Tryz.sz4 ?_); simp only [go_sem, simprocAttr, hF, hd, hdk, hc1, hz, Av.sopJ])
    | ((with_reducible refine sopsJ_go ?_); simp only [go_sem, simprocAttr, hF, hd, hdk, hc1, hz, Av.sopJ])
    | ((with_reducible refine sopsJ_end ?_); simp only [go_sem, simprocAttr, hF, hd, hdk, hc1, hz, Av.sopJ])
    | ((refine awp_regionJ (id := 4) [1000010, 1000012, 1000022, 1000023, 1000033, 1000036, 1000038, 1000040, 1000044, 1000045] ?_); simp only [go_sem, simprocAttr, hF, hd, hdk, hc1, hz, Av.sopJ])
    | ((first | refine ⟨_, handq_rawField rfl rfl (by decide) Tryz.underlying74 rfl (m := 1) rfl rfl, rfl, ?_⟩ | refine ⟨_, handq_fnL TabC.below rfl rfl (by decide) (fun w0 h => hC w0 h.1) rfl rfl (fun _ => rfl) (itoa_okC d hdr.1 hdr.2), rfl, ?_⟩); simp only [go_sem, simprocAttr, hF, hbx])
    | ((first | with_reducible refine sops_go ?_ | with_reducible refine headW_end ?_ | with_reducible refine sops_end ?_ | with_reducible refine awp_if ?_ | with_reducible refine awp_skip ?_); simp only [go_sem, simprocAttr, hF, hd, hdk, hc1, hz])
    | ((with_reducible refine headW_go ?_); simp only [go_sem, simprocAttr, hF, hd, hdk, hc1, hz, hbx])
    | with_reducible refine awp_seq_k fun _ _ => ?_
    | (refine awp_draw' (id := 5) [1000010, 1000012, 1000022, 1000023, 1000033, 1000036, 1000038, 1000040, 1000044, 1000045] 6 (by kernel_rfl) (by kernel_rfl) rfl rfl (fun bx0 hbx => ?_); try dsimp only [List.take, List.drop])
    | (with_reducible refine awp_region (id := 2) [1000010, 1000012, 1000022, 1000023, 1000033, 1000036, 1000038, 1000040, 1000044, 1000045] ?_)
    | (with_reducible refine awp_region (id := 3) [1000010, 1000012, 1000022, 1000023, 1000033, 1000036, 1000038, 1000040, 1000044, 1000045] ?_)
    | (with_reducible refine awp_block ?_)
    | go_step)
   refine hand_callX (writeString_okX TabC b true (decide (d > 1099511627776)) (l ++ lineB word (ns.take k)) V2 (⟨#[32]⟩ ++ txtI d) hl6) E rfl hC rfl rfl (by decide) rfl rfl (fun V3 => ?_)
   simp only [go_sem, simprocAttr, hF]
   repeat (first
    | ((first | with_reducible refine sops_go ?_ | with_reducible refine sops_end ?_); simp only [go_sem, simprocAttr, hF, hd, hdk, hw])
    | (with_reducible refine awp_region (id := 6) [1000010, 1000012, 1000022, 1000023, 1000033, 1000036, 1000038, 1000040, 1000044, 1000045] ?_)
    | go_step)
   refine ⟨(⟨k + 1, hlt⟩, V3), by dsimp only; omega, hR _ _ (sub_mk ?_)⟩
   simp only [go_sem, simprocAttr, hF]
   symm
   show E.and (wrE b (true, (l ++ lineB word (ns.take k)) ++ (⟨#[32]⟩ ++ txtI d : ByteArray).data.toList, (decide (d > 1099511627776))) V3) = E.and (wrE b (true, l ++ lineB word (ns.take (k + 1)), bd || (ns.take (k + 1)).any farB) V3)
   rw [htb, hta, ← Bool.or_assoc, hB, ← List.append_assoc]
   try simp [farB, hc1]
/- Requests are written. -/
attribute [local go_sem] Tryz.sz64 Tryz.zr64 Tryz.by64 Tryz.pl64 Tryz.is64 Tryz.underlying64 Tryz.sz67 Tryz.zr67 Tryz.by67 Tryz.pl67 Tryz.is67 Tryz.underlying67 Tryz.sz26 Tryz.zr26 Tryz.by26 Tryz.pl26 Tryz.is26 Tryz.underlying26 Tryz.sz30 Tryz.zr30 Tryz.by30 Tryz.pl30 Tryz.is30 Tryz.underlying30 Tryz.sz126 Tryz.zr126 Tryz.by126 Tryz.pl126 Tryz.is126 Tryz.underlying126 Tryz.sz79 Tryz.zr79 Tryz.by79 Tryz.pl79 Tryz.is79 Tryz.underlying79 Tryz.sz81 Tryz.zr81 Tryz.by81 Tryz.pl81 Tryz.is81 Tryz.underlying81 Tryz.sz83 Tryz.zr83 Tryz.by83 Tryz.pl83 Tryz.is83 Tryz.underlying83 Tryz.sz85 Tryz.zr85 Tryz.by85 Tryz.pl85 Tryz.is85 Tryz.underlying85 Tryz.sz35 Tryz.zr35 Tryz.by35 Tryz.pl35 Tryz.is35 Tryz.underlying35 Tryz.sz88 Tryz.zr88 Tryz.by88 Tryz.pl88 Tryz.is88 Tryz.underlying88 Tryz.sz22 Tryz.zr22 Tryz.by22 Tryz.pl22 Tryz.is22 Tryz.underlying22 Tryz.sz23 Tryz.zr23 Tryz.by23 Tryz.pl23 Tryz.is23 Tryz.underlying23 Tryz.sz27 Tryz.zr27 Tryz.by27 Tryz.pl27 Tryz.is27 Tryz.underlying27 Tryz.sz28 Tryz.zr28 Tryz.by28 Tryz.pl28 Tryz.is28 Tryz.underlying28 Tryz.sz31 Tryz.zr31 Tryz.by31 Tryz.pl31 Tryz.is31 Tryz.underlying31 Tryz.sz32 Tryz.zr32 Tryz.by32 Tryz.pl32 Tryz.is32 Tryz.underlying32 Tryz.sz33 Tryz.zr33 Tryz.by33 Tryz.pl33 Tryz.is33 Tryz.underlying33 Tryz.sz65 Tryz.zr65 Tryz.by65 Tryz.pl65 Tryz.is65 Tryz.underlying65 Tryz.sz68 Tryz.zr68 Tryz.by68 Tryz.pl68 Tryz.is68 Tryz.underlying68 Tryz.sz46 Tryz.zr46 Tryz.by46 Tryz.pl46 Tryz.is46 Tryz.underlying46 Tryz.sz38 Tryz.zr38 Tryz.by38 Tryz.pl38 Tryz.is38 Tryz.underlying38 Tryz.sz94 Tryz.zr94 Tryz.by94 Tryz.pl94 Tryz.is94 Tryz.underlying94 Tryz.sz91 Tryz.zr91 Tryz.by91 Tryz.pl91 Tryz.is91 Tryz.underlying91 Tryz.sz86 Tryz.zr86 Tryz.by86 Tryz.pl86 Tryz.is86 Tryz.underlying86 Sc.Fw.pv Sc.Rq.pv Sc.Ce.pv Sc.Ch.pv Sc.Wk.pv Sc.Og.pv Sc.Lk.pv Sc.Nt.pv Sc.Sn.pv Sc.rsR
set_option maxHeartbeats 2000000 in
theorem wreq_okX (b : Nat) (bd : Bool) (l : List UInt8) (V : Value) (word : ByteArray) (q : List Rq) (hn : Lr (reqL word q)) (hlen : l.length + (txt (reqL word q)).length ≤ 140737488355328) :
 FnX Tryz.prog TabC 28 [.v (wrP b), .v (.string word), .sl 7 (q.map Rq.pv)] (wrE b (true, l, bd) V) (.tup []) (fun V' => wrE b (true, l ++ txt (reqL word q), bd || qsBad q) V') := by
 refine fn_okX Tryz.func28 (by kernel_rfl) rfl (by rw [Tryz.ntmps28]; exact of_decide_eq_true rfl) (fun F E hF hC => ?_)
 rw [Tryz.ntmps28] at hF
 rw [Tryz.results28]
 simp only [go_sem, simprocAttr, hF]
 (with_reducible refine awp_cut (id := 0) (fun (_ : Unit) σ => ⟨keepS [0, 1, 2] σ.slot, [], [], E.and (wrE b (true, l, bd || decide ((q.length : Int) > 1024)) V)⟩) ?hx ?hy)
 case hx =>
  intro R hR
  cases bd with
  | true =>
   try simp only [go_sem, simprocAttr, hF]
   repeat (first
    | ((first | refine hand_rawField rfl rfl (by decide) Tryz.underlying74 rfl (m := 0) rfl rfl ?_ | refine hand_bldLoad (k := 0) (dd := .bool) rfl rfl (by decide) rfl rfl rfl Tryz.underlying4 rfl ?_ | refine hand_bldStore (k := 0) rfl rfl rfl rfl rfl (Nat.zero_lt_succ _) rfl rfl Tryz.sz4 ?_); simp only [go_sem, simprocAttr, hF, Av.sopJ])
    | ((with_reducible refine sopsJ_go ?_); simp only [go_sem, simprocAttr, hF, Av.sopJ])
    | ((with_reducible refine sopsJ_end ?_); simp only [go_sem, simprocAttr, hF, Av.sopJ])
    | ((refine awp_regionJ (id := 0) [1000014, 1000015, 1000022, 1000046, 1000050, 1000051, 1000059, 1000070, 1000071, 1000083, 1000086] ?_); simp only [go_sem, simprocAttr, hF, Av.sopJ]))
   refine hR () _ (sub_mk ?_)
   simp only [go_sem, simprocAttr, hF, Bool.true_or]
   all_goals (first | rfl | (repeat' (first | rfl | refine ⟨?_, ?_⟩)))
  | false =>
   try simp only [go_sem, simprocAttr, hF]
   repeat (first
    | ((first | refine hand_rawField rfl rfl (by decide) Tryz.underlying74 rfl (m := 0) rfl rfl ?_ | refine hand_bldLoad (k := 0) (dd := .bool) rfl rfl (by decide) rfl rfl rfl Tryz.underlying4 rfl ?_ | refine hand_bldStore (k := 0) rfl rfl rfl rfl rfl (Nat.zero_lt_succ _) rfl rfl Tryz.sz4 ?_); simp only [go_sem, simprocAttr, hF, Av.sopJ])
    | ((with_reducible refine sopsJ_go ?_); simp only [go_sem, simprocAttr, hF, Av.sopJ])
    | ((with_reducible refine sopsJ_end ?_); simp only [go_sem, simprocAttr, hF, Av.sopJ])
    | ((refine awp_regionJ (id := 0) [1000014, 1000015, 1000022, 1000046, 1000050, 1000051, 1000059, 1000070, 1000071, 1000083, 1000086] ?_); simp only [go_sem, simprocAttr, hF, Av.sopJ]))
   refine hR () _ (sub_mk ?_)
   simp only [go_sem, simprocAttr, hF, Bool.true_or]
   all_goals (first | rfl | (repeat' (first | rfl | refine ⟨?_, ?_⟩)))
 case hy =>
  intro _
  dsimp only
  simp only [go_sem, simprocAttr, hF]
  obtain ⟨B0, hB0⟩ : ∃ B0, (bd || decide ((q.length : Int) > 1024)) = B0 := ⟨_, rfl⟩
  rw [hB0]
  repeat (first
   | ((first | with_reducible refine sops_go ?_ | with_reducible refine sops_end ?_); simp only [go_sem, simprocAttr, hF])
   | with_reducible (first | refine awp_seq_k fun _ _ => ?_ | refine awp_region [1000014, 1000015, 1000022, 1000046, 1000050, 1000051, 1000059, 1000070, 1000071, 1000083, 1000086] ?_ | refine awp_block ?_)
   | go_step)
  refine awp_loop_by (ι := {k : Nat // k ≤ q.length} × Value) (fun k σ => ⟨(25, iv (k.1.1 : Int)) :: keepS [0, 1, 23, 24] σ.slot, σ.box, [], E.and (wrE b (true, l ++ txt (reqL word (q.take k.1.1)), B0 || (q.take k.1.1).any qBad) k.2)⟩) (fun k => q.length - k.1.1) (⟨0, Nat.zero_le _⟩, V) (sub_mk ?_) (fun R hR k => ?_)
  · simp only [go_sem, simprocAttr, hF]
    repeat' (first | rfl | refine ⟨?_, ?_⟩ | (simp [reqL]; done))
  obtain ⟨⟨k, hk⟩, V2⟩ := k
  dsimp only
  simp only [go_sem, simprocAttr, hF]
  by_cases hlt : k < q.length
  case neg =>
   have hd : decide ((k : Int) < (q.length : Int)) = false := decide_eq_false (by omega)
   obtain rfl : k = q.length := by omega
   rw [List.take_length]
   repeat (first
    | ((first | with_reducible refine sops_go ?_ | with_reducible refine sops_end ?_ | with_reducible refine awp_if ?_ | with_reducible refine awp_exit ?_); simp only [go_sem, simprocAttr, hF, hd])
    | with_reducible refine awp_seq_k fun _ _ => ?_
    | (with_reducible refine awp_region [1000014, 1000015, 1000022, 1000046, 1000050, 1000051, 1000059, 1000070, 1000071, 1000083, 1000086] ?_)
    | go_step)
   refine ⟨V2, ?_⟩
   rw [← hB0, Bool.or_assoc]
   rfl
  obtain ⟨x, hdk⟩ := get_of_lt hlt
  have hd : decide ((k : Int) < (q.length : Int)) = true := decide_eq_true (by omega)
  have hm := req_room hdk hlen
  have hge := reqL_ge word q
  have hge2 := rtL_ge x.rs
  have hw : IntKind.i64.wrap ((k : Int) + 1) = ((k + 1 : Nat) : Int) := by rw [IntKind.wrap_i64]; omega
  have hnx : Lr (reqL1 word x) := by
   have hn2 := hn
   rw [split_at hdk, reqL_append, reqL_cons] at hn2
   exact hn2.right.left
  obtain ⟨T, hT⟩ : ∃ T, l ++ txt (reqL word (q.take k)) = T := ⟨_, rfl⟩
  obtain ⟨B, hB⟩ : ∃ B, (B0 || (q.take k).any qBad) = B := ⟨_, rfl⟩
  rw [hT] at hm
  rw [hT, hB]
  have hl1 : T.length + (lineB word x.f.nums).length + 1 ≤ 140737488355328 := by
   have hm := hm
   rw [reqL1, txt_cons] at hm
   simp only [List.length_append, List.length_cons, List.length_nil] at hm
   omega
  repeat (first
   | ((first | with_reducible refine sops_go ?_ | with_reducible refine sops_end ?_ | with_reducible refine awp_if ?_ | with_reducible refine awp_skip ?_); simp only [go_sem, simprocAttr, hF, hd, hdk])
   | with_reducible (first | refine awp_seq_k fun _ _ => ?_ | refine awp_region [1000014, 1000015, 1000022, 1000046, 1000050, 1000051, 1000059, 1000070, 1000071, 1000083, 1000086] ?_ | refine awp_block ?_)
   | go_step)
  refine hand_callX (wline_okX b true B (T) V2 word x.f.nums hnx.head hl1) E rfl hC rfl rfl (by decide) rfl rfl (fun V3 => ?_)
  simp only [go_sem, simprocAttr, hF, hd, hdk]
  obtain ⟨B1, hB1⟩ : ∃ B1, (B || x.f.nums.any farB) = B1 := ⟨_, rfl⟩
  rw [hB1]
  repeat (first
   | (with_reducible refine awp_cut (id := 6) (fun (_ : Unit) σ => ⟨keepS [0, 1, 7, 23, 24, 25] σ.slot, [(7, x.pv)], [], E.and (wrE b (true, T ++ lineB word x.f.nums ++ [10], B1 || decide ((x.rs.length : Int) > 1024)) V3)⟩) ?hx ?hy)
   | (with_reducible refine sops_end ?_; simp only [go_sem, simprocAttr, hF, hd, hdk])
   | go_step)
  case hx =>
   intro R hR
   cases B1 with
   | true =>
    try simp only [go_sem, simprocAttr, hF, hdk]
    repeat (first
     | ((first | refine hand_rawField rfl rfl (by decide) Tryz.underlying74 rfl (m := 0) rfl rfl ?_ | refine hand_bldLoad (k := 0) (dd := .bool) rfl rfl (by decide) rfl rfl rfl Tryz.underlying4 rfl ?_ | refine hand_bldStore (k := 0) rfl rfl rfl rfl rfl (Nat.zero_lt_succ _) rfl rfl Tryz.sz4 ?_); simp only [go_sem, simprocAttr, hF, hdk, Av.sopJ])
     | ((with_reducible refine sopsJ_go ?_); simp only [go_sem, simprocAttr, hF, hdk, Av.sopJ])
     | ((with_reducible refine sopsJ_end ?_); simp only [go_sem, simprocAttr, hF, hdk, Av.sopJ])
     | ((refine awp_regionJ (id := 6) [1000014, 1000015, 1000022, 1000046, 1000050, 1000051, 1000059, 1000070, 1000071, 1000083, 1000086] ?_); simp only [go_sem, simprocAttr, hF, hdk, Av.sopJ]))
    refine hR () _ (sub_mk ?_)
    simp only [go_sem, simprocAttr, hF, hdk, Bool.true_or]
    all_goals (first | rfl | (repeat' (first | rfl | refine ⟨?_, ?_⟩)))
   | false =>
    try simp only [go_sem, simprocAttr, hF, hdk]
    repeat (first
     | ((first | refine hand_rawField rfl rfl (by decide) Tryz.underlying74 rfl (m := 0) rfl rfl ?_ | refine hand_bldLoad (k := 0) (dd := .bool) rfl rfl (by decide) rfl rfl rfl Tryz.underlying4 rfl ?_ | refine hand_bldStore (k := 0) rfl rfl rfl rfl rfl (Nat.zero_lt_succ _) rfl rfl Tryz.sz4 ?_); simp only [go_sem, simprocAttr, hF, hdk, Av.sopJ])
     | ((with_reducible refine sopsJ_go ?_); simp only [go_sem, simprocAttr, hF, hdk, Av.sopJ])
     | ((with_reducible refine sopsJ_end ?_); simp only [go_sem, simprocAttr, hF, hdk, Av.sopJ])
     | ((refine awp_regionJ (id := 6) [1000014, 1000015, 1000022, 1000046, 1000050, 1000051, 1000059, 1000070, 1000071, 1000083, 1000086] ?_); simp only [go_sem, simprocAttr, hF, hdk, Av.sopJ]))
    refine hR () _ (sub_mk ?_)
    simp only [go_sem, simprocAttr, hF, hdk, Bool.true_or]
    all_goals (first | rfl | (repeat' (first | rfl | refine ⟨?_, ?_⟩)))
  case hy =>
   intro _
   dsimp only
   simp only [go_sem, simprocAttr, hF, hdk]
   obtain ⟨B2, hB2⟩ : ∃ B2, (B1 || decide ((x.rs.length : Int) > 1024)) = B2 := ⟨_, rfl⟩
   rw [hB2]
   repeat (first
    | ((first | with_reducible refine sops_go ?_ | with_reducible refine sops_end ?_); simp only [go_sem, simprocAttr, hF, hd, hdk])
    | with_reducible (first | refine awp_seq_k fun _ _ => ?_ | refine awp_region [1000014, 1000015, 1000022, 1000046, 1000050, 1000051, 1000059, 1000070, 1000071, 1000083, 1000086] ?_ | refine awp_block ?_)
    | go_step)
   refine awp_loop_by (ι := {j : Nat // j ≤ x.rs.length} × Value) (fun j σ => ⟨(63, iv (j.1.1 : Int)) :: keepS [0, 1, 23, 24, 25, 61, 62] σ.slot, [], [], E.and (wrE b (true, T ++ txt ((word, x.f.nums) :: rtL (x.rs.take j.1.1)), B2 || (x.rs.take j.1.1).any rtBad) j.2)⟩) (fun j => x.rs.length - j.1.1) (⟨0, Nat.zero_le _⟩, V3) (sub_mk ?_) (fun R2 hR2 j => ?_)
   · simp only [go_sem, simprocAttr, hF]
     repeat' (first | rfl | refine ⟨?_, ?_⟩ | (simp [rtL, txt_cons]; done))
   obtain ⟨⟨j, hj⟩, V4⟩ := j
   dsimp only
   simp only [go_sem, simprocAttr, hF]
   by_cases hlj : j < x.rs.length
   case neg =>
    have hd2 : decide ((j : Int) < (x.rs.length : Int)) = false := decide_eq_false (by omega)
    obtain rfl : j = x.rs.length := by omega
    rw [List.take_length]
    repeat (first
     | ((first | with_reducible refine sops_go ?_ | with_reducible refine sops_end ?_ | with_reducible refine awp_if ?_ | with_reducible refine awp_exit ?_); simp only [go_sem, simprocAttr, hF, hd, hdk, hd2, hw])
     | with_reducible refine awp_seq_k fun _ _ => ?_
     | (with_reducible refine awp_region [1000014, 1000015, 1000022, 1000046, 1000050, 1000051, 1000059, 1000070, 1000071, 1000083, 1000086] ?_)
     | go_step)
    refine ⟨(⟨k + 1, hlt⟩, V4), by dsimp only; omega, hR _ _ (sub_mk ?_)⟩
    simp only [go_sem, simprocAttr, hF]
    symm
    show E.and (wrE b (true, T ++ txt (reqL1 word x), B2 || x.rs.any rtBad) V4) = E.and (wrE b (true, l ++ txt (reqL word (q.take (k + 1))), B0 || (q.take (k + 1)).any qBad) V4)
    rw [reqL_take_succ hdk, txt_append, ← List.append_assoc, hT, any_succ hdk, ← Bool.or_assoc, hB, ← hB2, ← hB1]
    simp only [qBad, Bool.or_assoc]
   obtain ⟨r, hdj⟩ := get_of_lt hlj
   have hd2 : decide ((j : Int) < (x.rs.length : Int)) = true := decide_eq_true (by omega)
   have hw2 : IntKind.i64.wrap ((j : Int) + 1) = ((j + 1 : Nat) : Int) := by rw [IntKind.wrap_i64]; have hm3 := hm; rw [reqL1, txt_cons, List.length_append] at hm3; omega
   have hm2 := rt_room hdj hm
   have hnr : ∀ n ∈ r, -9223372036854775808 ≤ n ∧ n ≤ 9223372036854775807 := hnx.tail (wRoute, r) (List.mem_map.2 ⟨r, List.mem_of_getElem? hdj, rfl⟩)
   obtain ⟨T2, hT2⟩ : ∃ T2, T ++ txt ((word, x.f.nums) :: rtL (x.rs.take j)) = T2 := ⟨_, rfl⟩
   obtain ⟨B3, hB3⟩ : ∃ B3, (B2 || (x.rs.take j).any rtBad) = B3 := ⟨_, rfl⟩
   rw [hT2] at hm2
   rw [hT2, hB3]
   repeat (first
    | (with_reducible refine awp_cut (id := 10) (fun (_ : Unit) σ => ⟨keepS [0, 1, 10, 23, 24, 25, 61, 62, 63] σ.slot, [], [], E.and (wrE b (true, T2, B3 || ((r.length : Int) == 0) || decide ((r.length : Int) > 1024)) V4)⟩) ?hx ?hy)
    | ((first | with_reducible refine sops_go ?_ | with_reducible refine sops_end ?_ | with_reducible refine awp_if ?_ | with_reducible refine awp_skip ?_); simp only [go_sem, simprocAttr, hF, hd2, hdj])
    | with_reducible (first | refine awp_seq_k fun _ _ => ?_ | refine awp_region [1000014, 1000015, 1000022, 1000046, 1000050, 1000051, 1000059, 1000070, 1000071, 1000083, 1000086] ?_ | refine awp_block ?_)
    | go_step)
   case hx =>
    intro R hR
    cases B3 with
    | true =>
     try simp only [go_sem, simprocAttr, hF, hdj]
     repeat (first
      | ((first | refine hand_rawField rfl rfl (by decide) Tryz.underlying74 rfl (m := 0) rfl rfl ?_ | refine hand_bldLoad (k := 0) (dd := .bool) rfl rfl (by decide) rfl rfl rfl Tryz.underlying4 rfl ?_ | refine hand_bldStore (k := 0) rfl rfl rfl rfl rfl (Nat.zero_lt_succ _) rfl rfl Tryz.sz4 ?_); simp only [go_sem, simprocAttr, hF, hdj, Av.sopJ])
      | ((with_reducible refine sopsJ_go ?_); simp only [go_sem, simprocAttr, hF, hdj, Av.sopJ])
      | ((with_reducible refine sopsJ_end ?_); simp only [go_sem, simprocAttr, hF, hdj, Av.sopJ])
      | ((refine awp_regionJ (id := 10) [1000014, 1000015, 1000022, 1000046, 1000050, 1000051, 1000059, 1000070, 1000071, 1000083, 1000086] ?_); simp only [go_sem, simprocAttr, hF, hdj, Av.sopJ]))
     refine hR () _ (sub_mk ?_)
     simp only [go_sem, simprocAttr, hF, hdj, Bool.true_or]
     all_goals (first | rfl | (repeat' (first | rfl | refine ⟨?_, ?_⟩)))
    | false =>
     cases hc0 : ((r.length : Int) == 0) with
     | true =>
      try simp only [go_sem, simprocAttr, hF, hdj, hc0]
      repeat (first
       | ((first | refine hand_rawField rfl rfl (by decide) Tryz.underlying74 rfl (m := 0) rfl rfl ?_ | refine hand_bldLoad (k := 0) (dd := .bool) rfl rfl (by decide) rfl rfl rfl Tryz.underlying4 rfl ?_ | refine hand_bldStore (k := 0) rfl rfl rfl rfl rfl (Nat.zero_lt_succ _) rfl rfl Tryz.sz4 ?_); simp only [go_sem, simprocAttr, hF, hdj, hc0, Av.sopJ])
       | ((with_reducible refine sopsJ_go ?_); simp only [go_sem, simprocAttr, hF, hdj, hc0, Av.sopJ])
       | ((with_reducible refine sopsJ_end ?_); simp only [go_sem, simprocAttr, hF, hdj, hc0, Av.sopJ])
       | ((refine awp_regionJ (id := 10) [1000014, 1000015, 1000022, 1000046, 1000050, 1000051, 1000059, 1000070, 1000071, 1000083, 1000086] ?_); simp only [go_sem, simprocAttr, hF, hdj, hc0, Av.sopJ]))
      refine hR () _ (sub_mk ?_)
      simp only [go_sem, simprocAttr, hF, hdj, hc0, Bool.true_or]
      all_goals (first | rfl | (repeat' (first | rfl | refine ⟨?_, ?_⟩)))
     | false =>
      try simp only [go_sem, simprocAttr, hF, hdj, hc0]
      repeat (first
       | ((first | refine hand_rawField rfl rfl (by decide) Tryz.underlying74 rfl (m := 0) rfl rfl ?_ | refine hand_bldLoad (k := 0) (dd := .bool) rfl rfl (by decide) rfl rfl rfl Tryz.underlying4 rfl ?_ | refine hand_bldStore (k := 0) rfl rfl rfl rfl rfl (Nat.zero_lt_succ _) rfl rfl Tryz.sz4 ?_); simp only [go_sem, simprocAttr, hF, hdj, hc0, Av.sopJ])
       | ((with_reducible refine sopsJ_go ?_); simp only [go_sem, simprocAttr, hF, hdj, hc0, Av.sopJ])
       | ((with_reducible refine sopsJ_end ?_); simp only [go_sem, simprocAttr, hF, hdj, hc0, Av.sopJ])
       | ((refine awp_regionJ (id := 10) [1000014, 1000015, 1000022, 1000046, 1000050, 1000051, 1000059, 1000070, 1000071, 1000083, 1000086] ?_); simp only [go_sem, simprocAttr, hF, hdj, hc0, Av.sopJ]))
      refine hR () _ (sub_mk ?_)
      simp only [go_sem, simprocAttr, hF, hdj, hc0, Bool.true_or]
      all_goals (first | rfl | (repeat' (first | rfl | refine ⟨?_, ?_⟩)))
   case hy =>
    intro _
    dsimp only
    simp only [go_sem, simprocAttr, hF, hdj]
    obtain ⟨B4, hB4⟩ : ∃ B4, (B3 || ((r.length : Int) == 0) || decide ((r.length : Int) > 1024)) = B4 := ⟨_, rfl⟩
    rw [hB4]
    repeat (first
     | (with_reducible refine sops_go ?_; simp only [go_sem, simprocAttr, hF, hd2, hdj])
     | (with_reducible refine awp_region [1000014, 1000015, 1000022, 1000046, 1000050, 1000051, 1000059, 1000070, 1000071, 1000083, 1000086] ?_))
    refine hand_callX (wline_okX b true B4 (T2) V4 wRoute r hnr hm2) E rfl hC rfl rfl (by decide) rfl rfl (fun V5 => ?_)
    simp only [go_sem, simprocAttr, hF, hd2, hdj]
    repeat (first
     | ((first | with_reducible refine sops_go ?_ | with_reducible refine sops_end ?_); simp only [go_sem, simprocAttr, hF, hd2, hdj, hw2])
     | (with_reducible refine awp_region [1000014, 1000015, 1000022, 1000046, 1000050, 1000051, 1000059, 1000070, 1000071, 1000083, 1000086] ?_)
     | go_step)
    refine ⟨(⟨j + 1, hlj⟩, V5), by dsimp only; omega, hR2 _ _ (sub_mk ?_)⟩
    simp only [go_sem, simprocAttr, hF]
    symm
    show E.and (wrE b (true, T2 ++ lineB wRoute r ++ [10], B4 || r.any farB) V5) = E.and (wrE b (true, T ++ txt ((word, x.f.nums) :: rtL (x.rs.take (j + 1))), B2 || (x.rs.take (j + 1)).any rtBad) V5)
    rw [rt_succ hdj, ← List.append_assoc, hT2, any_succ hdj, ← Bool.or_assoc, hB3, ← hB4]
    simp only [rtBad, Bool.or_assoc, List.append_assoc]
/- A network is written. -/
set_option maxHeartbeats 2000000 in
theorem wnet_okX (b : Nat) (st bd : Bool) (l : List UInt8) (V : Value) (n : Nt) (hP : n.power.length ≤ 1000000) (hR1 : ∀ r ∈ n.power, r.length ≤ 1000000) (hK : n.links.length ≤ 1000000) (hM : n.links.length = n.margin.length) (hn : Lr (netL n)) (hlen : l.length + (txt (netL n)).length ≤ 140737488355328) :
 FnX Tryz.prog TabC 27 [.v (wrP b), .agg n.pv] (wrE b (st, l, bd) V) (.tup []) (fun V' => wrE b (true, l ++ txt (netL n), bd || farL (netL n)) V') := by
 have hnp : Lr (powL 0 n.power) := hn.tail.left
 have hnk : Lr (linkL n) := hn.tail.right
 have hl0 : l.length + (lineB wNetwork [n.nodes, n.noise, n.thr]).length + 1 ≤ 140737488355328 := by
  unfold netL at hlen
  rw [txt_cons] at hlen
  simp only [List.length_append, List.length_cons, List.length_nil] at hlen
  omega
 have hl1 : (l ++ lineB wNetwork [n.nodes, n.noise, n.thr] ++ [10]).length + (txt (powL 0 n.power)).length + (txt (linkL n)).length ≤ 140737488355328 := by
  unfold netL at hlen
  rw [txt_cons, txt_append] at hlen
  simp only [List.length_append, List.length_cons, List.length_nil] at hlen ⊢
  omega
 refine fn_okX Tryz.func27 (by kernel_rfl) rfl (by rw [Tryz.ntmps27]; exact of_decide_eq_true rfl) (fun F E hF hC => ?_)
 rw [Tryz.ntmps27] at hF
 rw [Tryz.results27]
 simp only [go_sem, simprocAttr, hF]
 repeat (first
  | ((first | with_reducible refine sops_go ?_ | with_reducible refine sops_end ?_); simp only [go_sem, simprocAttr, hF])
  | with_reducible refine awp_seq_k fun _ _ => ?_
  | (with_reducible refine awp_region [1000018, 1000041, 1000065] ?_)
  | go_step)
 refine hand_callX (wline_okX b st bd l V wNetwork [n.nodes, n.noise, n.thr] hn.head hl0) E rfl hC rfl rfl (by decide) rfl rfl (fun V1 => ?_)
 simp only [go_sem, simprocAttr, hF]
 obtain ⟨T0, hT0⟩ : ∃ T0, l ++ lineB wNetwork [n.nodes, n.noise, n.thr] ++ [10] = T0 := ⟨_, rfl⟩
 obtain ⟨B0, hB0⟩ : ∃ B0, (bd || [n.nodes, n.noise, n.thr].any farB) = B0 := ⟨_, rfl⟩
 rw [hT0] at hl1
 rw [hT0, hB0]
 repeat (first
  | ((first | with_reducible refine sops_go ?_ | with_reducible refine sops_end ?_); simp only [go_sem, simprocAttr, hF])
  | with_reducible (first | refine awp_seq_k fun _ _ => ?_ | refine awp_region [1000018, 1000041, 1000065] ?_ | refine awp_block ?_)
  | go_step)
 refine awp_loop_by (ι := {k : Nat // k ≤ n.power.length} × Value) (fun k σ => ⟨(22, iv (k.1.1 : Int)) :: keepS [0, 3, 20, 21] σ.slot, [(3, n.pv)], [], E.and (wrE b (true, T0 ++ txt (powL 0 (n.power.take k.1.1)), B0 || farL (powL 0 (n.power.take k.1.1))) k.2)⟩) (fun k => n.power.length - k.1.1) (⟨0, Nat.zero_le _⟩, V1) (sub_mk ?_) (fun R hR k => ?_)
 · simp only [go_sem, simprocAttr, hF]
   repeat' (first | rfl | refine ⟨?_, ?_⟩ | (simp [powL]; done))
 obtain ⟨⟨k, hk⟩, V2⟩ := k
 dsimp only
 simp only [go_sem, simprocAttr, hF]
 by_cases hlt : k < n.power.length
 case neg =>
  have hd : decide ((k : Int) < (n.power.length : Int)) = false := decide_eq_false (by omega)
  obtain rfl : k = n.power.length := by omega
  rw [List.take_length]
  have hl2 : (T0 ++ txt (powL 0 n.power)).length + (txt (linkL n)).length ≤ 140737488355328 := by rw [List.length_append]; omega
  obtain ⟨T1, hT1⟩ : ∃ T1, T0 ++ txt (powL 0 n.power) = T1 := ⟨_, rfl⟩
  obtain ⟨B1, hB1⟩ : ∃ B1, (B0 || farL (powL 0 n.power)) = B1 := ⟨_, rfl⟩
  rw [hT1] at hl2
  rw [hT1, hB1]
  repeat (first
   | ((first | with_reducible refine sops_go ?_ | with_reducible refine sops_end ?_ | with_reducible refine awp_if ?_ | with_reducible refine awp_exit ?_); simp only [go_sem, simprocAttr, hF, hd])
   | with_reducible (first | refine awp_seq_k fun _ _ => ?_ | refine awp_region [1000018, 1000041, 1000065] ?_ | refine awp_block ?_)
   | go_step)
  refine awp_loop_by (ι := {k : Nat // k ≤ n.links.length} × Value) (fun k σ => ⟨(47, iv (k.1.1 : Int)) :: keepS [0, 3, 45, 46] σ.slot, [(3, n.pv)], [], E.and (wrE b (true, T1 ++ txt (((n.links.zip n.margin).take k.1.1).map lkL), B1 || farL (((n.links.zip n.margin).take k.1.1).map lkL)) k.2)⟩) (fun k => n.links.length - k.1.1) (⟨0, Nat.zero_le _⟩, V2) (sub_mk ?_) (fun R2 hR2 j => ?_)
  · simp only [go_sem, simprocAttr, hF]
    repeat' (first | rfl | refine ⟨?_, ?_⟩ | (simp; done))
  obtain ⟨⟨j, hj⟩, V3⟩ := j
  dsimp only
  simp only [go_sem, simprocAttr, hF]
  by_cases hlj : j < n.links.length
  case neg =>
   have hd2 : decide ((j : Int) < (n.links.length : Int)) = false := decide_eq_false (by omega)
   obtain rfl : j = n.links.length := by omega
   have hz : (n.links.zip n.margin).take n.links.length = (n.links.zip n.margin) := by
    refine List.take_of_length_le ?_
    rw [List.length_zip]; omega
   rw [hz]
   repeat (first
    | ((first | with_reducible refine sops_go ?_ | with_reducible refine sops_end ?_ | with_reducible refine awp_if ?_ | with_reducible refine awp_exit ?_); simp only [go_sem, simprocAttr, hF, hd2])
    | with_reducible refine awp_seq_k fun _ _ => ?_
    | (with_reducible refine awp_region [1000018, 1000041, 1000065] ?_)
    | go_step)
   refine ⟨V3, ?_⟩
   show E.and (wrE b (true, T1 ++ txt (linkL n), B1 || farL (linkL n)) V3) = E.and (wrE b (true, l ++ txt (netL n), bd || farL (netL n)) V3)
   rw [← hT1, ← hB1, ← hT0, ← hB0]
   unfold netL
   rw [txt_cons, txt_append, show (wNetwork, [n.nodes, n.noise, n.thr]) :: (powL 0 n.power ++ linkL n) = [(wNetwork, [n.nodes, n.noise, n.thr])] ++ (powL 0 n.power ++ linkL n) from rfl, farL_append, farL_append, farL_one]
   simp only [List.append_assoc, Bool.or_assoc]
  obtain ⟨x, hdx⟩ := get_of_lt hlj
  obtain ⟨m, hdm⟩ := get_of_lt (show j < n.margin.length by omega)
  have hdz : (n.links.zip n.margin)[j]? = some (x, m) := by
   rw [List.getElem?_zip_eq_some]
   exact ⟨hdx, hdm⟩
  have hd2 : decide ((j : Int) < (n.links.length : Int)) = true := decide_eq_true (by omega)
  have hw2 : IntKind.i64.wrap ((j : Int) + 1) = ((j + 1 : Nat) : Int) := by rw [IntKind.wrap_i64]; omega
  have hmg : j < n.margin.length := by omega
  have hl3 := map_room (f := lkL) hdz hl2
  have hn3 := map_range (f := lkL) hdz hnk
  obtain ⟨T2, hT2⟩ : ∃ T2, T1 ++ txt (((n.links.zip n.margin).take j).map lkL) = T2 := ⟨_, rfl⟩
  obtain ⟨B2, hB2⟩ : ∃ B2, (B1 || farL (((n.links.zip n.margin).take j).map lkL)) = B2 := ⟨_, rfl⟩
  rw [hT2] at hl3
  rw [hT2, hB2]
  repeat (first
   | ((first | with_reducible refine sops_go ?_ | with_reducible refine headW_end ?_ | with_reducible refine sops_end ?_ | with_reducible refine awp_if ?_ | with_reducible refine awp_skip ?_); simp only [go_sem, simprocAttr, hF, hd2, hdx, hdm, hlj, hmg])
   | ((with_reducible refine headW_go ?_); simp only [go_sem, simprocAttr, hF, hd2, hdx, hdm, hlj, hmg, hbx])
   | with_reducible refine awp_seq_k fun _ _ => ?_
   | (refine awp_draw' (id := 15) [1000018, 1000041, 1000065] 13 (by kernel_rfl) (by kernel_rfl) rfl rfl (fun bx0 hbx => ?_); try dsimp only [List.take, List.drop])
   | with_reducible (first | refine awp_region [1000018, 1000041, 1000065] ?_ | refine awp_block ?_)
   | go_step)
  refine hand_callX (wline_okX b true B2 (T2) V3 wLink [x.fr, x.to, x.ls, m] hn3 hl3) E rfl hC rfl rfl (by decide) rfl rfl (fun V4 => ?_)
  simp only [go_sem, simprocAttr, hF, hd2, hdx, hdm, hlj, hmg]
  repeat (first
   | ((first | with_reducible refine sops_go ?_ | with_reducible refine sops_end ?_); simp only [go_sem, simprocAttr, hF, hd2, hdx, hdm, hlj, hmg, hw2])
   | (with_reducible refine awp_region [1000018, 1000041, 1000065] ?_)
   | go_step)
  refine ⟨(⟨j + 1, hlj⟩, V4), by dsimp only; omega, hR2 _ _ (sub_mk ?_)⟩
  simp only [go_sem, simprocAttr, hF]
  symm
  show E.and (wrE b (true, T2 ++ lineB (lkL (x, m)).1 (lkL (x, m)).2 ++ [10], B2 || (lkL (x, m)).2.any farB) V4) = E.and (wrE b (true, T1 ++ txt (((n.links.zip n.margin).take (j + 1)).map lkL), B1 || farL (((n.links.zip n.margin).take (j + 1)).map lkL)) V4)
  rw [map_txt_succ hdz, map_far_succ hdz, ← List.append_assoc, ← Bool.or_assoc, hT2, hB2]
  simp only [List.append_assoc]
 obtain ⟨row, hdk⟩ := get_of_lt hlt
 have hd : decide ((k : Int) < (n.power.length : Int)) = true := decide_eq_true (by omega)
 have hw : IntKind.i64.wrap ((k : Int) + 1) = ((k + 1 : Nat) : Int) := by rw [IntKind.wrap_i64]; omega
 have hrow := hR1 row (List.mem_of_getElem? hdk)
 have hl2 := pow_room (T := T0) hdk (by omega : T0.length + (txt (powL 0 n.power)).length ≤ 140737488355328)
 have hn2 := pow_range hdk hnp
 obtain ⟨T1, hT1⟩ : ∃ T1, T0 ++ txt (powL 0 (n.power.take k)) = T1 := ⟨_, rfl⟩
 obtain ⟨B1, hB1⟩ : ∃ B1, (B0 || farL (powL 0 (n.power.take k))) = B1 := ⟨_, rfl⟩
 rw [hT1] at hl2
 rw [hT1, hB1]
 repeat (first
  | ((first | with_reducible refine sops_go ?_ | with_reducible refine sops_end ?_ | with_reducible refine awp_if ?_ | with_reducible refine awp_skip ?_); simp only [go_sem, simprocAttr, hF, hd, hdk])
  | with_reducible (first | refine awp_seq_k fun _ _ => ?_ | refine awp_region [1000018, 1000041, 1000065] ?_ | refine awp_block ?_)
  | go_step)
 refine awp_loop_by (ι := {j : Nat // j ≤ row.length} × Value) (fun j σ => ⟨(29, iv (j.1.1 : Int)) :: keepS [0, 3, 4, 20, 21, 22, 27, 28] σ.slot, [(3, n.pv)], [], E.and (wrE b (true, T1 ++ txt (rowL k 0 (row.take j.1.1)), B1 || farL (rowL k 0 (row.take j.1.1))) j.2)⟩) (fun j => row.length - j.1.1) (⟨0, Nat.zero_le _⟩, V2) (sub_mk ?_) (fun R2 hR2 j => ?_)
 · simp only [go_sem, simprocAttr, hF]
   repeat' (first | rfl | refine ⟨?_, ?_⟩ | (simp [rowL]; done))
 obtain ⟨⟨j, hj⟩, V3⟩ := j
 dsimp only
 simp only [go_sem, simprocAttr, hF]
 by_cases hlj : j < row.length
 case neg =>
  have hd2 : decide ((j : Int) < (row.length : Int)) = false := decide_eq_false (by omega)
  obtain rfl : j = row.length := by omega
  rw [List.take_length]
  repeat (first
   | ((first | with_reducible refine sops_go ?_ | with_reducible refine sops_end ?_ | with_reducible refine awp_if ?_ | with_reducible refine awp_exit ?_); simp only [go_sem, simprocAttr, hF, hd2, hw])
   | with_reducible refine awp_seq_k fun _ _ => ?_
   | (with_reducible refine awp_region [1000018, 1000041, 1000065] ?_)
   | go_step)
  refine ⟨(⟨k + 1, hlt⟩, V3), by dsimp only; omega, hR _ _ (sub_mk ?_)⟩
  simp only [go_sem, simprocAttr, hF]
  symm
  show E.and (wrE b (true, T1 ++ txt (rowL k 0 row), B1 || farL (rowL k 0 row)) V3) = E.and (wrE b (true, T0 ++ txt (powL 0 (n.power.take (k + 1))), B0 || farL (powL 0 (n.power.take (k + 1)))) V3)
  rw [powL_take_succ hdk, txt_append, farL_append, ← List.append_assoc, ← Bool.or_assoc, hT1, hB1]
 obtain ⟨p, hdj⟩ := get_of_lt hlj
 have hd2 : decide ((j : Int) < (row.length : Int)) = true := decide_eq_true (by omega)
 have hw2 : IntKind.i64.wrap ((j : Int) + 1) = ((j + 1 : Nat) : Int) := by rw [IntKind.wrap_i64]; omega
 obtain ⟨T2, hT2⟩ : ∃ T2, T1 ++ txt (rowL k 0 (row.take j)) = T2 := ⟨_, rfl⟩
 obtain ⟨B2, hB2⟩ : ∃ B2, (B1 || farL (rowL k 0 (row.take j))) = B2 := ⟨_, rfl⟩
 have hsucc := rowL_take_succ (a := k) hdj
 by_cases hp : p = 0
 · have hpb : (p != 0) = false := by simp [hp]
   rw [if_pos hp, List.append_nil] at hsucc
   rw [hT2, hB2]
   repeat (first
    | ((first | with_reducible refine sops_go ?_ | with_reducible refine sops_end ?_ | with_reducible refine awp_if ?_ | with_reducible refine awp_skip ?_); simp only [go_sem, simprocAttr, hF, hd2, hdj, hw2, hpb])
    | with_reducible (first | refine awp_seq_k fun _ _ => ?_ | refine awp_region [1000018, 1000041, 1000065] ?_ | refine awp_block ?_)
    | go_step)
   refine ⟨(⟨j + 1, hlj⟩, V3), by dsimp only; omega, hR2 _ _ (sub_mk ?_)⟩
   simp only [go_sem, simprocAttr, hF]
   rw [hsucc, hT2, hB2]
 have hpb : (p != 0) = true := by simpa using hp
 have hl3 := row_room hdj hp hl2
 have hn3 := row_range hdj hp hn2
 rw [if_neg hp] at hsucc
 rw [hT2] at hl3
 rw [hT2, hB2]
 repeat (first
  | ((first | with_reducible refine sops_go ?_ | with_reducible refine sops_end ?_ | with_reducible refine awp_if ?_ | with_reducible refine awp_skip ?_); simp only [go_sem, simprocAttr, hF, hd2, hdj, hw2, hpb])
  | with_reducible (first | refine awp_seq_k fun _ _ => ?_ | refine awp_region [1000018, 1000041, 1000065] ?_ | refine awp_block ?_)
  | go_step)
 refine hand_callX (wline_okX b true B2 (T2) V3 wPower [(k : Int), (j : Int), p] hn3 hl3) E rfl hC rfl rfl (by decide) rfl rfl (fun V4 => ?_)
 simp only [go_sem, simprocAttr, hF, hd2, hdj, hw2, hpb]
 repeat (first
  | ((first | with_reducible refine sops_go ?_ | with_reducible refine sops_end ?_); simp only [go_sem, simprocAttr, hF, hd2, hdj, hw2, hpb])
  | (with_reducible refine awp_region [1000018, 1000041, 1000065] ?_)
  | go_step)
 refine ⟨(⟨j + 1, hlj⟩, V4), by dsimp only; omega, hR2 _ _ (sub_mk ?_)⟩
 simp only [go_sem, simprocAttr, hF]
 symm
 show E.and (wrE b (true, T2 ++ lineB wPower [(k : Int), (j : Int), p] ++ [10], B2 || [(k : Int), (j : Int), p].any farB) V4) = E.and (wrE b (true, T1 ++ txt (rowL k 0 (row.take (j + 1))), B1 || farL (rowL k 0 (row.take (j + 1)))) V4)
 rw [hsucc, txt_append, farL_append, txt_one, farL_one, ← List.append_assoc, ← Bool.or_assoc, hT2, hB2]
 simp only [List.append_assoc]
/- Whether a network can be written. -/
set_option maxHeartbeats 2000000 in
theorem idxW_ok (c : FuncId) (caps : List (List PV)) (p : (List Int) → Bool) (l : List (List Int)) (hl : l.length ≤ 1000000) (hc : ∀ y ∈ l, FnOK Tryz.prog c (.sl 1 (y.map fun n => [ip n]) :: caps.map AV.ept) ⟨bv (p y), none⟩) : FnOK Tryz.prog 103 [.sl 1 (rsR l), .fnv c caps] ⟨iv (idxP p l 0), none⟩ := by
 refine fn_ok Tryz.func103 (by kernel_rfl) rfl (by rw [Tryz.ntmps103]; exact of_decide_eq_true rfl) (fun F hF => ?_)
 rw [Tryz.ntmps103] at hF
 rw [Tryz.results103]
 repeat (first
  | ((first | with_reducible refine sops_go ?_ | with_reducible refine sops_end ?_); simp only [go_sem, simprocAttr, hF])
  | with_reducible (first | refine awp_seq_k fun _ _ => ?_ | refine awp_region [] ?_ | refine awp_block ?_)
  | go_step)
 refine awp_loop_by (ι := {k : Nat // k ≤ l.length ∧ idxP p l 0 = idxP p (l.drop k) (k : Int)}) (fun k σ => ⟨(8, iv (k.1 : Int)) :: keepS [0, 1, 4, 7] σ.slot, σ.box, [], σ.ext⟩) (fun k => l.length - k.1) ⟨0, by omega, rfl⟩ (sub_mk ?_) (fun R hR k => ?_)
 · simp only [go_sem, simprocAttr, hF]
   repeat' (first | rfl | refine ⟨?_, ?_⟩)
 obtain ⟨k, hk, hT⟩ := k
 dsimp only
 simp only [go_sem, simprocAttr, hF]
 by_cases hlt : k < l.length
 case neg =>
  have hd : decide ((k : Int) < (l.length : Int)) = false := decide_eq_false (by omega)
  repeat (first
   | ((first | with_reducible refine sops_go ?_ | with_reducible refine sops_end ?_ | with_reducible refine awp_if ?_ | with_reducible refine awp_ret ?_ | with_reducible refine awp_exit ?_); simp only [go_sem, simprocAttr, hF, hd])
   | with_reducible refine awp_seq_k fun _ _ => ?_
   | (with_reducible refine awp_region [] ?_)
   | go_step)
  rw [hT, List.drop_of_length_le (by omega)]
  rfl
 obtain ⟨y, hyk⟩ := get_of_lt hlt
 have hd : decide ((k : Int) < (l.length : Int)) = true := decide_eq_true (by omega)
 have hw : IntKind.i64.wrap ((k : Int) + 1) = ((k + 1 : Nat) : Int) := by rw [IntKind.wrap_i64]; omega
 have hT' : idxP p l 0 = if p y = true then (k : Int) else idxP p (l.drop (k + 1)) ((k + 1 : Nat) : Int) := by rw [hT, drop_of_get hyk, idxP]; rfl
 repeat (first
  | ((first | with_reducible refine sops_go ?_ | with_reducible refine sops_end ?_ | with_reducible refine awp_if ?_ | with_reducible refine awp_skip ?_); simp only [go_sem, simprocAttr, hF, hd, hyk])
  | with_reducible (first | refine awp_seq_k fun _ _ => ?_ | refine awp_region [] ?_ | refine awp_block ?_)
  | go_step)
 refine ⟨_, hc y (List.mem_of_getElem? hyk), ?_⟩
 simp only [go_sem, simprocAttr, hF]
 cases he : p y with
 | true =>
  try simp only [go_sem, simprocAttr, hF, he]
  repeat (first
   | ((first | with_reducible refine sops_go ?_ | with_reducible refine sops_end ?_ | with_reducible refine awp_if ?_ | with_reducible refine awp_ret ?_); simp only [go_sem, simprocAttr, hF, he])
   | with_reducible refine awp_seq_k fun _ _ => ?_
   | (with_reducible refine awp_region [] ?_)
   | go_step)
  rw [hT', if_pos he]
 | false =>
  try simp only [go_sem, simprocAttr, hF, he]
  repeat (first
   | ((first | with_reducible refine sops_go ?_ | with_reducible refine sops_end ?_ | with_reducible refine awp_if ?_ | with_reducible refine awp_skip ?_); simp only [go_sem, simprocAttr, hF, he, hw])
   | (with_reducible refine awp_region [] ?_)
   | go_step)
  refine ⟨⟨k + 1, by omega, by rw [hT', if_neg (by rw [he]; decide)]⟩, by dsimp only; omega, hR _ _ (sub_mk ?_)⟩
  simp only [go_sem, simprocAttr, hF, hw]

set_option maxHeartbeats 2000000 in
theorem contW_ok (c : FuncId) (caps : List (List PV)) (p : (List Int) → Bool) (l : List (List Int)) (hl : l.length ≤ 1000000) (hc : ∀ y ∈ l, FnOK Tryz.prog c (.sl 1 (y.map fun n => [ip n]) :: caps.map AV.ept) ⟨bv (p y), none⟩) : FnOK Tryz.prog 56 [.sl 1 (rsR l), .fnv c caps] ⟨bv (l.any p), none⟩ := by
 have hx := idx_any p l
 refine fn_ok Tryz.func56 (by kernel_rfl) rfl (by rw [Tryz.ntmps56]; exact of_decide_eq_true rfl) (fun F hF => ?_)
 rw [Tryz.ntmps56] at hF
 rw [Tryz.results56]
 repeat (first
  | ((first | with_reducible refine sops_go ?_ | with_reducible refine sops_end ?_); simp only [go_sem, simprocAttr, hF])
  | with_reducible refine awp_seq_k fun _ _ => ?_
  | (with_reducible refine awp_region [] ?_)
  | go_step)
 refine ⟨_, idxW_ok c caps p l hl hc, ?_⟩
 simp only [go_sem, simprocAttr, hF]
 repeat (first
  | ((first | with_reducible refine sops_go ?_ | with_reducible refine sops_end ?_ | with_reducible refine awp_ret ?_); simp only [go_sem, simprocAttr, hF, hx])
  | go_step)
 all_goals (try rfl)

set_option maxHeartbeats 2000000 in
theorem shaped1_ok (n : Nt) (r : List Int) : FnOK Tryz.prog 57 [.sl 1 (r.map fun n => [ip n]), .ept n.pv] ⟨bv ((r.length : Int) != n.nodes), none⟩ := by
 refine fn_ok Tryz.func57 (by kernel_rfl) rfl (by rw [Tryz.ntmps57]; exact of_decide_eq_true rfl) (fun F hF => ?_)
 rw [Tryz.ntmps57] at hF
 rw [Tryz.results57]
 repeat (first
  | ((first | with_reducible refine sops_go ?_ | with_reducible refine sops_end ?_ | with_reducible refine awp_ret ?_); simp only [go_sem, simprocAttr, hF])
  | with_reducible refine awp_seq_k fun _ _ => ?_
  | (with_reducible refine awp_region [] ?_)
  | go_step)
 all_goals (try rfl)

set_option maxHeartbeats 2000000 in
theorem shaped_ok (n : Nt) (hP : n.power.length ≤ 1000000) : FnOK Tryz.prog 26 [.agg n.pv] ⟨bv (shaped n), none⟩ := by
 refine fn_ok Tryz.func26 (by kernel_rfl) rfl (by rw [Tryz.ntmps26]; exact of_decide_eq_true rfl) (fun F hF => ?_)
 rw [Tryz.ntmps26] at hF
 rw [Tryz.results26]
 repeat (first
  | ((first | with_reducible refine sops_go ?_ | with_reducible refine sops_end ?_); simp only [go_sem, simprocAttr, hF])
  | with_reducible refine awp_seq_k fun _ _ => ?_
  | (with_reducible refine awp_region [] ?_)
  | go_step)
 cases hg0 : decide (n.nodes < 0) with
 | true =>
  try simp only [go_sem, simprocAttr, hF, hg0]
  repeat (first
   | ((first | with_reducible refine sops_go ?_ | with_reducible refine sops_end ?_ | with_reducible refine awp_if ?_ | with_reducible refine awp_ret ?_); simp only [go_sem, simprocAttr, hF, hg0])
   | with_reducible refine awp_seq_k fun _ _ => ?_
   | (with_reducible refine awp_region [] ?_)
   | go_step)
  all_goals (try (unfold shaped; simp only [hg0, Bool.or_true, Bool.true_or, Bool.or_false, Bool.false_or, Bool.not_true, Bool.not_false, Bool.false_and, Bool.true_and]))
  all_goals (try rfl)
 | false =>
  cases hg1 : decide (n.nodes > 32) with
  | true =>
   try simp only [go_sem, simprocAttr, hF, hg0, hg1]
   repeat (first
    | ((first | with_reducible refine sops_go ?_ | with_reducible refine sops_end ?_ | with_reducible refine awp_if ?_ | with_reducible refine awp_ret ?_); simp only [go_sem, simprocAttr, hF, hg0, hg1])
    | with_reducible refine awp_seq_k fun _ _ => ?_
    | (with_reducible refine awp_region [] ?_)
    | go_step)
   all_goals (try (unfold shaped; simp only [hg0, hg1, Bool.or_true, Bool.true_or, Bool.or_false, Bool.false_or, Bool.not_true, Bool.not_false, Bool.false_and, Bool.true_and]))
   all_goals (try rfl)
  | false =>
   cases hg2 : ((n.power.length : Int) != n.nodes) with
   | true =>
    try simp only [go_sem, simprocAttr, hF, hg0, hg1, hg2]
    repeat (first
     | ((first | with_reducible refine sops_go ?_ | with_reducible refine sops_end ?_ | with_reducible refine awp_if ?_ | with_reducible refine awp_ret ?_); simp only [go_sem, simprocAttr, hF, hg0, hg1, hg2])
     | with_reducible refine awp_seq_k fun _ _ => ?_
     | (with_reducible refine awp_region [] ?_)
     | go_step)
    all_goals (try (unfold shaped; simp only [hg0, hg1, hg2, Bool.or_true, Bool.true_or, Bool.or_false, Bool.false_or, Bool.not_true, Bool.not_false, Bool.false_and, Bool.true_and]))
    all_goals (try rfl)
   | false =>
    cases hg3 : ((n.links.length : Int) != (n.margin.length : Int)) with
    | true =>
     try simp only [go_sem, simprocAttr, hF, hg0, hg1, hg2, hg3]
     repeat (first
      | ((first | with_reducible refine sops_go ?_ | with_reducible refine sops_end ?_ | with_reducible refine awp_if ?_ | with_reducible refine awp_ret ?_); simp only [go_sem, simprocAttr, hF, hg0, hg1, hg2, hg3])
      | with_reducible refine awp_seq_k fun _ _ => ?_
      | (with_reducible refine awp_region [] ?_)
      | go_step)
     all_goals (try (unfold shaped; simp only [hg0, hg1, hg2, hg3, Bool.or_true, Bool.true_or, Bool.or_false, Bool.false_or, Bool.not_true, Bool.not_false, Bool.false_and, Bool.true_and]))
     all_goals (try rfl)
    | false =>
     cases hg4 : decide ((n.links.length : Int) > 1024) with
     | true =>
      try simp only [go_sem, simprocAttr, hF, hg0, hg1, hg2, hg3, hg4]
      repeat (first
       | ((first | with_reducible refine sops_go ?_ | with_reducible refine sops_end ?_ | with_reducible refine awp_if ?_ | with_reducible refine awp_ret ?_); simp only [go_sem, simprocAttr, hF, hg0, hg1, hg2, hg3, hg4])
       | with_reducible refine awp_seq_k fun _ _ => ?_
       | (with_reducible refine awp_region [] ?_)
       | go_step)
      all_goals (try (unfold shaped; simp only [hg0, hg1, hg2, hg3, hg4, Bool.or_true, Bool.true_or, Bool.or_false, Bool.false_or, Bool.not_true, Bool.not_false, Bool.false_and, Bool.true_and]))
      all_goals (try rfl)
     | false =>
      try simp only [go_sem, simprocAttr, hF, hg0, hg1, hg2, hg3, hg4]
      repeat (first
       | ((first | with_reducible refine sops_go ?_ | with_reducible refine sops_end ?_ | with_reducible refine awp_if ?_ | with_reducible refine awp_skip ?_); simp only [go_sem, simprocAttr, hF, hg0, hg1, hg2, hg3, hg4])
       | with_reducible refine awp_seq_k fun _ _ => ?_
       | (with_reducible refine awp_region [] ?_)
       | go_step)
      refine ⟨_, contW_ok 57 [n.pv] (fun r => ((r.length : Int) != n.nodes)) n.power hP (fun r _ => shaped1_ok n r), ?_⟩
      simp only [go_sem, simprocAttr, hF]
      repeat (first
       | ((first | with_reducible refine sops_go ?_ | with_reducible refine sops_end ?_ | with_reducible refine awp_ret ?_); simp only [go_sem, simprocAttr, hF, hg0, hg1, hg2, hg3, hg4])
       | go_step)
      all_goals (try (unfold shaped; simp only [hg0, hg1, hg2, hg3, hg4, Bool.or_true, Bool.true_or, Bool.or_false, Bool.false_or, Bool.not_true, Bool.not_false, Bool.false_and, Bool.true_and]))
      all_goals (try rfl)
end Go.Proofs.YtcloigoajohppaaGreatDoor
