import Derived.Lib.SliceRun
import Derived.OwnWalk
import Derived.StillTailTactics
import Derived.Deep.RegionHeld3
import Derived.Deep.DeepCutAuto
import Derived.Shelf.Abstract
import Derived.WalkKit
import Derived.Laws.Entries
import Derived.Deep.RegionLaw
import Derived.Laws.CopyRow
import Derived.Laws.OwnMore
import Derived.Lib.AppendZeros
import Derived.Lib.Overlaps
import Derived.Lib.JoinLaws
import Derived.Maps.AppendAt
import Derived.Maps.OwnRows
import Derived.Maps.GroupsBeside
import Derived.Maps.OwnOps
import Derived.Maps.Views
import Derived.DeepKeys4
import Derived.WideKeyEntry
import Derived.Test.YticnppnejafhdaaGreatDoorZ2
import Derived.Test.YticnppnejafhdaaGreatDoorProg
set_option linter.unusedVariables false
set_option linter.unusedSimpArgs false
/- Plain laws of the monitor layer: how the reference counts frames; MonitorCounts. No program's numbers. -/
namespace Go.Proofs.YticnppnejafhdaaGreatDoor
open Rc Nd
namespace Mo
/-- Flows without a fault, their numbers ascending. -/
theorem chkGo_ok : ∀ (l : List Fl) (p : Option Fl) (i : Int), (chkGo p i l).2 = 0 → (∀ f ∈ l, fault f = 0) ∧ (∀ q, p = some q → ∀ f ∈ l, q.id < f.id) ∧ l.Pairwise (fun a b => a.id < b.id)
  | [], _, _, _ => ⟨fun _ h => (by cases h), fun _ _ _ h => (by cases h), List.Pairwise.nil⟩
  | f :: l, p, i, h => by
    unfold chkGo at h
    split at h
    · rename_i hf
      split at h
      · cases h
      · rename_i hn
        obtain ⟨i1, i2, i3⟩ := chkGo_ok l (some f) (i + 1) h
        have i2' := i2 f rfl
        refine ⟨fun g hg => ?_, fun q hq g hg => ?_, List.Pairwise.cons i2' i3⟩
        · rcases List.mem_cons.1 hg with rfl | hg
          · exact hf
          · exact i1 g hg
        · subst hq
          have h4 : q.id < f.id := by
            simp only [notUp, decide_eq_true_eq] at hn
            omega
          rcases List.mem_cons.1 hg with rfl | hg
          · exact h4
          · have := i2' g hg; omega
    · rename_i hf
      exact absurd h hf
theorem chkF_ok {l : List Fl} (h : (chkF l).2 = 0) : (∀ f ∈ l, fault f = 0) ∧ l.Pairwise (fun a b => a.id < b.id) ∧ l.length ≤ 16 := by
  unfold chkF at h
  split at h
  · cases h
  · rename_i hl
    have := chkGo_ok l none 0 h
    exact ⟨this.1, this.2.2, by omega⟩
theorem right_inv {fs : List Fl} {r : Rec} (h : right fs r = true) : (chkF fs).2 = 0 ∧ good r = true := by
  unfold right at h
  rw [Bool.and_eq_true, decide_eq_true_eq] at h
  exact h
theorem good_slots {r : Rec} (h : good r = true) : 0 ≤ r.slots ∧ r.slots ≤ 4096 := by
  simp only [good, Bool.and_eq_true, decide_eq_true_eq] at h
  exact ⟨h.1, h.2.1⟩
theorem dlvsGo_mem {slots : Int} : ∀ (l : List Dlv) (p : Option Dlv), dlvsGo slots p l = true → ∀ d ∈ l, dlvB d slots = true
  | [], _, _, d, hd => by cases hd
  | a :: l, p, h, d, hd => by
    rw [dlvsGo] at h
    split at h
    · cases h
    · rename_i hb
      split at h
      · cases h
      · rcases List.mem_cons.1 hd with rfl | hd
        · simpa using hb
        · exact dlvsGo_mem l _ h d hd
theorem good_dlv {r : Rec} (h : good r = true) {d : Dlv} (hd : d ∈ r.dl) : 0 ≤ d.sl ∧ d.sl < r.slots ∧ 0 ≤ d.fl ∧ d.fl < 256 ∧ 0 ≤ d.fr ∧ d.fr < 1048576 := by
  simp only [good, Bool.and_eq_true] at h
  have := dlvsGo_mem r.dl none h.2.2.2.2.2 d hd
  simp only [dlvB, belowB, Bool.and_eq_true, decide_eq_true_eq] at this
  obtain ⟨⟨a, b⟩, ⟨c, e⟩, f, g⟩ := this
  exact ⟨f, g, a, b, c, e⟩
theorem complete_bounds {f : Fl} (h : fault f = 0) {slots : Int} (hs : slots ≤ 4096) : 0 ≤ complete f slots ∧ complete f slots ≤ 4096 := by
  obtain ⟨_, _, _, ⟨hp, _⟩, ⟨hph, _⟩, ⟨hd, _⟩, _⟩ := fault_zero h
  unfold complete
  split
  · rename_i h0
    have hq : 0 ≤ (slots - f.ph - f.dl) / f.pe := Int.ediv_nonneg h0 (by omega)
    have : (slots - f.ph - f.dl) / f.pe ≤ slots - f.ph - f.dl := Int.ediv_le_self _ h0
    omega
  · omega
end Mo
end Go.Proofs.YticnppnejafhdaaGreatDoor
/- A region that draws its order: quiet operations (calls among them), and allocations of variables that may come at any time among them ('floats'); then a tail in one forced order that waits for all of them. One walk: the quiet ones in the text's order, then the floats, then the tail. Generic. -/
namespace Go.Proofs.YticnppnejafhdaaGreatDoor
open Go.RowKit

/-- The worlds that are w below B and in which the blocks of G stand as they were made. -/
structure ExtG (B : Nat) (w : World) (G : List (Nat × Obj)) where
  val : World
  below : Below B w val
  holds : ∀ g o, (g, o) ∈ G → val.heap[g]? = some o

theorem ExtG.cell {B : Nat} {w : World} {G : List (Nat × Obj)} (x : ExtG B w G) (p : Addr) (h : p.block < B) : x.val.cell? p = w.cell? p := x.below.cell h
/-- Block g of w is just the cells cs, none frozen. -/
def Blk (w : World) (g : Nat) (t : TypeId) (cs : List Value) : Prop := w.heap[g]? = some (.cells cs.toArray t (0, 0))
section
variable {w w' : World} {g : Nat} {t : TypeId} {cs : List Value}
theorem Blk.lt (h : Blk w g t cs) : g < w.heap.size := by
  rcases Nat.lt_or_ge g w.heap.size with hlt | hge
  · exact hlt
  · unfold Blk at h; rw [Array.getElem?_eq_none hge] at h; cases h
theorem Blk.row (h : Blk w g t cs) : Row w g cs := fun i => by
  unfold World.cell?
  unfold Blk at h
  rw [show (⟨g, i, none⟩ : Addr).block = g from rfl, h]
  simp
theorem Blk.frozen (h : Blk w g t cs) (i : Nat) : w.frozen? ⟨g, i, none⟩ = false := by
  unfold World.frozen?
  unfold Blk at h
  rw [show (⟨g, i, none⟩ : Addr).block = g from rfl, h]
  simp
theorem Blk.new (w : World) (t : TypeId) (cs : List Value) : Blk (w.alloc (.cells cs.toArray t)) w.heap.size t cs := heap_alloc_new w _
theorem Blk.drew (h : Blk w g t cs) : Blk w.drew g t cs := h
theorem Blk.drewN (h : Blk w g t cs) (n : Nat) : Blk (w.drewN n) g t cs := h
theorem Blk.alloc (h : Blk w g t cs) (o : Obj) : Blk (w.alloc o) g t cs := (Below.heap_alloc w o g h.lt).trans h
theorem Blk.set_ (h : Blk w g t cs) (i : Nat) (u : Value) : Blk (w.setCell ⟨g, i, none⟩ u) g t (cs.set i u) := by
  unfold Blk at h ⊢
  simp [World.setCell, Array.getElem?_modify, h]
theorem Blk.far (h : Blk w g t cs) {p : Addr} (hp : g ≠ p.block) (u : Value) : Blk (w.setCell p u) g t cs := (Below.heap_setCell w p u g hp).trans h
theorem Blk.below {B : Nat} (h : Blk w g t cs) (hb : Below B w w') (hg : g < B) : Blk w' g t cs := (hb.block g hg).trans h
end

section
variable {P : Program} {ops : Array Oper}

variable {B n : Nat} {w : World} {fl : Nat → Option (Tmp × Obj)} {L : Array Bool → Act → List (Nat × Obj) → Prop}

variable {Q : Exit → Act → World → Prop} {m : Nat} {tl : List Oper}

end
end Go.Proofs.YticnppnejafhdaaGreatDoor
/- Owned rows of cells read as lists; slices of integers. Generic: no program's numbers. -/
namespace Go.Proofs.YticnppnejafhdaaGreatDoor
open Go.RowKit

theorem flat_get {α : Type} (f : α → List Value) (sz : Nat) (hf : ∀ a, (f a).length = sz) : ∀ (l : List α) (k j : Nat) (a : α), l[k]? = some a → j < sz → (l.flatMap f)[k * sz + j]? = (f a)[j]?
  | [], k, j, a, h, _ => by simp at h
  | x :: l, 0, j, a, h, hj => by
    simp at h
    subst h
    simp only [List.flatMap_cons, Nat.zero_mul, Nat.zero_add]
    rw [List.getElem?_append_left (by rw [hf]; exact hj)]
  | x :: l, k + 1, j, a, h, hj => by
    have h' : l[k]? = some a := by simpa using h
    simp only [List.flatMap_cons]
    rw [List.getElem?_append_right (by rw [hf, Nat.succ_mul]; omega), hf, show (k + 1) * sz + j - sz = k * sz + j by rw [Nat.succ_mul]; omega]
    exact flat_get f sz hf l k j a h' hj

theorem add_off (g j : Nat) : (⟨g, 0, none⟩ : Addr).add j = ⟨g, j, none⟩ := by
  unfold Addr.add
  split
  · rename_i h; subst h; rfl
  · simp

/-- An owned row of structs reads as a list. -/
theorem own_lies {α : Type} {f : α → List Value} {sz : Nat} (hf : ∀ a, (f a).length = sz) {w : World} {base : Nat} {e : TypeId} {v : Value} {l : List α} (h : w.ownsRow base e sz v l.length (l.flatMap f)) :
    ∃ A c, v = .slice A l.length c ∧ Lies w w.heap.size sz A (l.map f) ∧ l.length ≤ maxLen := by
  rcases h.2 with ⟨rfl, h0⟩ | ⟨g, cap, cur, rfl, hg, hh, hnc, hm, hs, ht⟩
  · refine ⟨none, 0, by rw [h0], ?_, by rw [h0]; unfold maxLen; omega⟩
    have : l = [] := List.eq_nil_of_length_eq_zero h0
    subst this
    exact Lies.nil _ _ _ _
  · refine ⟨_, cap, rfl, fun _ => ⟨g, 0, rfl, ?_, fun k row hr j u hu => ?_⟩, Nat.le_trans hnc hm⟩
    · rcases Nat.lt_or_ge g w.heap.size with h' | h'
      · exact h'
      · rw [Array.getElem?_eq_none h'] at hh; cases hh
    · rw [List.getElem?_map] at hr
      cases hk : l[k]? with
      | none => rw [hk] at hr; cases hr
      | some a =>
        rw [hk] at hr
        have hra : f a = row := by simpa using hr
        subst hra
        have hj : j < sz := by
          have := (List.getElem?_eq_some_iff.1 hu).1
          rw [hf] at this; exact this
        have := h.cells (g := g) rfl (k * sz + j) u (by rw [flat_get f sz hf l k j a hk hj]; exact hu)
        rw [add_off] at this
        rw [Nat.zero_add]; exact this
theorem add_any (b off j : Nat) : (⟨b, off, none⟩ : Addr).add j = ⟨b, off + j, none⟩ := by
  unfold Addr.add
  split
  · rename_i h; subst h; simp
  · simp

/-- The cells of a slice of structs, one after the other. -/
theorem Lies.news {α : Type} {f : α → List Value} {sz : Nat} (hf : ∀ a, (f a).length = sz) (hz : 0 < sz) {w : World} {B : Nat} {ad : Addr} {l : List α} (h : Lies w B sz (some ad) (l.map f)) : ∀ j u, (l.flatMap f)[j]? = some u → w.cell? (ad.add j) = some u := by
  intro j u hu
  have hne : l.map f ≠ [] := by
    intro h0
    have : l = [] := by simpa using h0
    subst this
    simp at hu
  obtain ⟨b, off, e, _, hc⟩ := h hne
  injection e with e
  subst e
  have hlen : (l.flatMap f).length = l.length * sz := by
    clear hu hc hne h
    induction l with
    | nil => simp
    | cons x l ih => rw [List.flatMap_cons, List.length_append, hf, ih, List.length_cons, Nat.succ_mul]; omega
  have hj : j < l.length * sz := by rw [← hlen]; exact (List.getElem?_eq_some_iff.1 hu).1
  have hk : j / sz < l.length := Nat.div_lt_of_lt_mul (by rw [Nat.mul_comm]; exact hj)
  have hr : j % sz < sz := Nat.mod_lt _ hz
  obtain ⟨a, ha⟩ := get_of_lt hk
  have hg := flat_get f sz hf l (j / sz) (j % sz) a ha hr
  have e : j / sz * sz + j % sz = j := by rw [Nat.mul_comm]; exact Nat.div_add_mod j sz
  rw [e] at hg
  have := hc (j / sz) (f a) (by simp [ha]) (j % sz) u (by rw [← hg]; exact hu)
  rw [Nat.add_assoc, e] at this
  rw [add_any]
  exact this
theorem flat_len {α : Type} {f : α → List Value} {sz : Nat} (hf : ∀ a, (f a).length = sz) : ∀ l : List α, (l.flatMap f).length = l.length * sz
  | [] => by simp
  | x :: l => by rw [List.flatMap_cons, List.length_append, hf, flat_len hf l, List.length_cons, Nat.succ_mul]; omega

theorem Blk.new2 {w : World} {g : Nat} (t : TypeId) (cs : List Value) (h : g = w.heap.size) : Blk (w.alloc (.cells cs.toArray t)) g t cs := by rw [h]; exact Blk.new w t cs
def irow (x : Int) : List Value := [.int .i64 x]
theorem irow_len (x : Int) : (irow x).length = 1 := rfl
/-- The slice with address A holds the integers l. -/
def LiesI (w : World) (B : Nat) (A : Option Addr) (l : List Int) : Prop := Lies w B 1 A (l.map irow)
theorem LiesI.below {w w' : World} {B : Nat} {A : Option Addr} {l : List Int} (h : LiesI w B A l) (hb : Below B w w') : LiesI w' B A l := Lies.below h hb
theorem LiesI.more {w : World} {B B' : Nat} {A : Option Addr} {l : List Int} (h : LiesI w B A l) (hB : B ≤ B') : LiesI w B' A l := Lies.more h hB
theorem LiesI.nil {w : World} {B : Nat} {A : Option Addr} : LiesI w B A [] := Lies.nil _ _ _ _
theorem LiesI.at_ {w : World} {B : Nat} {A : Option Addr} {l : List Int} (h : LiesI w B A l) {k : Nat} {x : Int} (ha : l[k]? = some x) :
    ∃ b off, A = some ⟨b, off, none⟩ ∧ b < B ∧ ∀ k x, l[k]? = some x → w.cell? ⟨b, off + k, none⟩ = some (.int .i64 x) := by
  have hne : l.map irow ≠ [] := by
    intro h0
    have : l = [] := by simpa using h0
    subst this
    simp at ha
  obtain ⟨b, off, e, hb, hc⟩ := h hne
  refine ⟨b, off, e, hb, fun k x ha => ?_⟩
  have hr : (l.map irow)[k]? = some (irow x) := by simp [ha]
  have := hc k _ hr 0 _ rfl
  simpa using this
def flatI (l : List Int) : List Value := l.flatMap irow
theorem own_I {w : World} {base n c : Nat} {t : TypeId} {A : Option Addr} {l : List Int} (h : w.ownsRow base t 1 (.slice A n c) l.length (flatI l)) : LiesI w w.heap.size A l := by
  obtain ⟨A', c', e, h1, _⟩ := own_lies (f := irow) irow_len h
  injection e with e _ _
  subst e
  exact h1
end Go.Proofs.YticnppnejafhdaaGreatDoor
/- As the text Mix: with operations ('rough') that may change what lies below B; each of them waits for all that were taken first. Generic. -/
namespace Go.Proofs.YticnppnejafhdaaGreatDoor
open Go.RowKit

section
variable {P : Program} {ops : Array Oper} {Q : Exit → Act → World → Prop}

/-- What an operation leaves: all below B; a rough one nothing. -/
def lowR (R : List Nat) (B i : Nat) : Nat := if R.contains i = true then 0 else B
/-- Whatever order is picked from here on. -/
def anyR (P : Program) (ops : Array Oper) (B : Nat) (R : List Nat) (Q : Exit → Act → World → Prop) : Nat → Array Bool → Act → World → Prop
  | 0, listed, a, w => Region.ready .any ops listed = [] ∧ Q .normal a w
  | f + 1, listed, a, w => (Region.ready .any ops listed = [] → Q .normal a w) ∧ ∀ i ∈ Region.ready .any ops listed, wpOp P ops Q i (fun a' w' => Below (lowR R B i) w w' ∧ anyR P ops B R Q f (listed.setIfInBounds i true) a' w') a w

/-- Each rough operation waits for operation i. -/
def waitsR (ops : Array Oper) (R : List Nat) (i : Nat) : Bool :=
  R.all fun j => match ops[j]? with
    | some o => o.after.any fun e => Region.binds .any e && e.on == i
    | none => true
theorem waitsR_spec {i j : Nat} {oj : Oper} {R : List Nat} (h : waitsR ops R i = true) (hj : ops[j]? = some oj) (hno : ∀ e ∈ oj.after, Region.binds .any e = true → e.on ≠ i) : R.contains j = false := by
  rw [Bool.eq_false_iff]
  intro hc
  have hm : j ∈ R := by simpa using hc
  have h1 := List.all_eq_true.1 h j hm
  rw [hj] at h1
  simp only [Array.any_eq_true] at h1
  obtain ⟨k, hk, he⟩ := h1
  simp only [Bool.and_eq_true, beq_iff_eq] at he
  exact hno _ (Array.getElem_mem hk) he.1 he.2

theorem anyR_any {B : Nat} {R : List Nat} : ∀ (f : Nat) (listed : Array Bool) (a : Act) (w : World), anyR P ops B R Q f listed a w → wpAny P .any ops Q f listed a w
  | 0, _, _, _, h => h
  | f + 1, _, _, _, h => ⟨h.1, fun i hi => wpOp_mono (fun a' w' h' => anyR_any f _ a' w' h'.2) (h.2 i hi)⟩

theorem anyR_first {B B0 i : Nat} {R : List Nat} {oi : Oper} {v : Value} (hi : ops[i]? = some oi) (hR : ∀ j oj, ops[j]? = some oj → (∀ e ∈ oj.after, Region.binds .any e = true → e.on ≠ i) → B0 ≤ lowR R B j) (hsel : ∀ (j : Nat) (o : Oper) cs b, ops[j]? = some o → o.op ≠ .select cs b)
    (hQ : ∀ c a w, Q (.panic c) (a.put oi.dst v) w → Q (.panic c) a w) :
    ∀ (f : Nat) (listed : Array Bool) (a : Act) (w : World),
      (∀ j oj, ops[j]? = some oj → j ≠ i → listed.getD j true = false → (∀ e ∈ oj.after, Region.binds .any e = true → e.on ≠ i) → oi.apart ops oj = true) →
      i ∈ Region.ready .any ops listed → YieldsB P ops B0 oi v a w →
      anyR P ops B R Q f (listed.setIfInBounds i true) (a.put oi.dst v) w → anyR P ops B R Q (f + 1) listed a w := by
  intro f
  induction f with
  | zero =>
    intro listed a w _ hr hy H
    refine ⟨fun h => (by rw [h] at hr; cases hr), fun j hj => ?_⟩
    by_cases hji : j = i
    · subst hji; exact hy.wpOp hi ⟨Below.refl _ _, H⟩
    · have := ready_mono hj hji
      rw [H.1] at this
      cases this
  | succ f ih =>
    intro listed a w hfree hr hy H
    refine ⟨fun h => (by rw [h] at hr; cases hr), fun j hj => ?_⟩
    by_cases hji : j = i
    · subst hji; exact hy.wpOp hi ⟨Below.refl _ _, H⟩
    · have h1 := H.2 j (ready_mono hj hji)
      obtain ⟨hjun, oj, hoj, hall⟩ := mem_ready.1 hj
      have hnot : ∀ e ∈ oj.after, Region.binds .any e = true → e.on ≠ i := fun e he hb heq => by
        have h1 := hall e he hb
        rw [heq, getD_both (mem_ready.1 hr).1] at h1
        cases h1
      have h1' := wpOp_mono (K' := fun a' w' => Below B0 w w' ∧ (Below (lowR R B j) w w' ∧ anyR P ops B R Q f (((listed.setIfInBounds i true)).setIfInBounds j true) a' w')) (fun a' w' h => ⟨h.1.mono (hR j oj hoj hnot), h⟩) h1
      have h2 := anyB_put hoj (hfree j oj hoj hji hjun hnot) (fun cs b => hsel i oi cs b hi) (fun cs b => hsel j oj cs b hoj) hQ hy h1'
      have hfree' : ∀ k ok, ops[k]? = some ok → k ≠ i → (listed.setIfInBounds j true).getD k true = false →
          (∀ e ∈ ok.after, Region.binds .any e = true → e.on ≠ i) → oi.apart ops ok = true := fun k ok hk hki hun hno => by
        refine hfree k ok hk hki ?_ hno
        by_cases hjk : j = k
        · subst hjk; exact hjun
        · rw [getD_set_ne true hjk] at hun; exact hun
      refine wpOp_mono (fun a' w' h3 => ⟨h3.2.2.1, ih (listed.setIfInBounds j true) a' w' hfree' (ready_mono hr (Ne.symm hji)) h3.2.1 ?_⟩) h2
      rw [Array.setIfInBounds_comm _ _ hji]
      exact h3.2.2.2

theorem lowR_waits {B i : Nat} {R : List Nat} (h : waitsR ops R i = true) : ∀ j oj, ops[j]? = some oj → (∀ e ∈ oj.after, Region.binds .any e = true → e.on ≠ i) → B ≤ lowR R B j := fun j oj hj hno => by
  unfold lowR
  rw [waitsR_spec h hj hno]
  simp

/-- A plain operation that is quiet below B is taken first. -/
theorem anyR_take {B f : Nat} {R : List Nat} {l l' : Array Bool} {a : Act} {w : World} (i : Nat) (o : Oper) (hi : ops[i]? = some o) (hp : plainOp o.op = true) (hs : Region.noSelect ops = true) (hR : waitsR ops R i = true) (hf : Region.free .any ops l i = true)
    (hr : (Region.ready .any ops l).contains i = true) (hl : l.setIfInBounds i true = l') (hw : Region.wanted o (yielded ops a.tmps) = true)
    (h : ∀ K : Act → Prop, (∀ a', anyR P ops B R (NoPanic Q) f l' a' w → K a') → o.quiet P a (fun w' => ∃ x : ExtW B w, w' = x.val) K) : anyR P ops B R (NoPanic Q) (f + 1) l a w := by
  obtain ⟨v, h1, h2⟩ := h _ (fun _ h => h)
  refine anyR_first (B0 := B) hi (lowR_waits hR) (Region.noSelect_spec hs) (v := v) (fun _ _ _ h => (h : False).elim) f l a w (Region.free_spec hi hf) (by simpa using hr) (.inl ⟨hw, fun w' hb => ?_⟩) (by rw [hl]; exact h2)
  have h3 := h1 w' ⟨⟨w', hb⟩, rfl⟩
  unfold Oper.quietAt at h3
  rcases run_plain (P := P) hp a.eval w' with ⟨u, w2, e⟩ | ⟨x, w2, e⟩
  · rw [e] at h3 ⊢
    obtain ⟨rfl, rfl⟩ := h3
    rfl
  · rw [e] at h3
    exact h3.elim

/-- A plain operation that looks at no memory is taken first. -/
theorem anyR_take0 {B f : Nat} {R : List Nat} {l l' : Array Bool} {a : Act} {w : World} (i : Nat) (o : Oper) (hi : ops[i]? = some o) (hp : plainOp o.op = true) (hs : Region.noSelect ops = true) (hf : Region.free .any ops l i = true)
    (hr : (Region.ready .any ops l).contains i = true) (hl : l.setIfInBounds i true = l') (hw : Region.wanted o (yielded ops a.tmps) = true)
    (h : ∀ K : Act → Prop, (∀ a', anyR P ops B R (NoPanic Q) f l' a' w → K a') → o.quiet P a (fun w' => ∃ x : ExtW 0 w, w' = x.val) K) : anyR P ops B R (NoPanic Q) (f + 1) l a w := by
  obtain ⟨v, h1, h2⟩ := h _ (fun _ h => h)
  refine anyR_first (B0 := 0) hi (fun _ _ _ _ => Nat.zero_le _) (Region.noSelect_spec hs) (v := v) (fun _ _ _ h => (h : False).elim) f l a w (Region.free_spec hi hf) (by simpa using hr) (.inl ⟨hw, fun w' hb => ?_⟩) (by rw [hl]; exact h2)
  have h3 := h1 w' ⟨⟨w', hb⟩, rfl⟩
  unfold Oper.quietAt at h3
  rcases run_plain (P := P) hp a.eval w' with ⟨u, w2, e⟩ | ⟨x, w2, e⟩
  · rw [e] at h3 ⊢
    obtain ⟨rfl, rfl⟩ := h3
    rfl
  · rw [e] at h3
    exact h3.elim

/-- What stands behind one operation: the world is as it was below B, and the rest. -/
def OneR (P : Program) (ops : Array Oper) (B : Nat) (R : List Nat) (f i : Nat) (Q : Exit → Act → World → Prop) (l : Array Bool) (w : World) : Exit → Act → World → Prop
  | .normal, a', w' => Below (lowR R B i) w w' ∧ anyR P ops B R Q f l a' w'
  | e, a', w' => Q e a' w'

theorem wpOp_oneR {B f i : Nat} {R : List Nat} {o : Oper} {l l' : Array Bool} {a : Act} {w : World} (hi : ops[i]? = some o) (hl : l.setIfInBounds i true = l')
    (h : wpList P ops (OneR P ops B R f i (NoPanic Q) l' w) [o] a w) : wpOp P ops (NoPanic Q) i (fun a' w' => Below (lowR R B i) w w' ∧ anyR P ops B R (NoPanic Q) f (l.setIfInBounds i true) a' w') a w := by
  rw [hl]
  unfold wpOp
  simp only [hi]
  simp only [wpList] at h
  split
  · rename_i hw
    simp only [hw, if_true] at h
    rcases h with h | ⟨h1, a0, w0, h2⟩
    · refine .inl ?_
      unfold Oper.wp at *
      generalize (execOp a.eval o).run P w = r at *
      cases r with
      | ok n w' =>
        cases n <;> simp only [Oper.upon] at h ⊢
        case value u => exact h
        case skip => exact h
        case defer d => exact h
        case enter f args =>
          refine Calls.mono h fun e w'' he => ?_
          cases e with
          | returned u => exact he
          | panicked c => exact he
          | outgrown => obtain ⟨a0, w0, h2⟩ := he; exact ⟨a0, w0, h2⟩
        case row row args => exact h
      | halt x w' =>
        cases x <;> simp only [Oper.upon] at h ⊢
        case panic u => exact h
    · exact .inr ⟨h1, a0, w0, h2⟩
  · rename_i hw
    simp only [hw] at h
    exact h

/-- One operation alone is ready. -/
theorem anyR_one {B f : Nat} {R : List Nat} {l l' : Array Bool} {a : Act} {w : World} (i : Nat) (o : Oper) (hi : ops[i]? = some o) (hr : Region.ready .any ops l = [i]) (hl : l.setIfInBounds i true = l')
    (h : wpList P ops (OneR P ops B R f i (NoPanic Q) l' w) [o] a w) : anyR P ops B R (NoPanic Q) (f + 1) l a w :=
  ⟨fun h0 => (by rw [hr] at h0; cases h0), fun j hj => by
    rw [hr] at hj
    obtain rfl : j = i := by simpa using hj
    exact wpOp_oneR hi hl h⟩

theorem OneR_mk {B f i : Nat} {R : List Nat} {l : Array Bool} {a' : Act} {w w' : World} (hb : Below B w w') (h : anyR P ops B R (NoPanic Q) f l a' w') : OneR P ops B R f i (NoPanic Q) l w .normal a' w' := ⟨hb.mono (by unfold lowR; split <;> omega), h⟩
theorem anyR_end {B : Nat} {R : List Nat} {l : Array Bool} {a : Act} {w : World} (hr : Region.ready .any ops l = []) (h : Q .normal a w) : anyR P ops B R (NoPanic Q) 0 l a w := ⟨hr, h⟩

/-- The region's door. -/
theorem wp_region_rough {id : Nat} {a : Act} {w : World} {lo : List Oper} (B n : Nat) (R : List Nat) (l : Array Bool) (hm : P.follows .mixedOrders = true) (hn : lo.toArray.size = n) (hl : Array.replicate n false = l)
    (h : anyR P lo.toArray B R (NoPanic Q) n l a w.drew) : (Code.region id lo.toArray true).wp P Q a w :=
  wp_region_noPanic (wp_region_any hm (by rw [hn, hl]; exact anyR_any _ _ _ _ h))

end
end Go.Proofs.YticnppnejafhdaaGreatDoor
/- Walks: the small functions of flow and of its reference. -/
namespace Go.Proofs.YticnppnejafhdaaGreatDoor
open Go.RowKit
open Nd

def Nd.Fl.row (f : Fl) : List Value := [.int .i64 f.id, .int .i64 f.fr, .int .i64 f.tn, .int .i64 f.pe, .int .i64 f.ph, .int .i64 f.dl]

theorem fault_eq (f : Fl) (R : Int) (h : R = if (0 ≤ f.id ∧ f.id ≤ 255) ∧ (0 ≤ f.fr ∧ f.fr ≤ 31) ∧ (0 ≤ f.tn ∧ f.tn ≤ 31) ∧ (1 ≤ f.pe ∧ f.pe ≤ 512) ∧ (0 ≤ f.ph ∧ f.ph ≤ f.pe - 1) ∧ (1 ≤ f.dl ∧ f.dl ≤ f.pe) then (if f.fr = f.tn then 1 else 0) else 2) : R = fault f := by
  rw [h]
  unfold fault
  congr 1
  simp [boundsB, inB, and_assoc]

theorem fcheck1_any (n : Int) (g : Nat) (w : World) (hc : w.cell? ⟨g, 0, none⟩ = some (.int .i64 32)) :
    Calls Tryz.prog 155 #[.int .i64 n, .pointer (some ⟨g, 0, none⟩)] w fun e w' => e = .returned (.bool (decide (0 ≤ n) && decide (n < 32))) ∧ w = w' := by
  go_enter Tryz.func155, Tryz.ntmps155
  go_wp2
  all_goals
    go_ret
    exact ⟨ret_bool (by first | (simp [*]; done) | (simp [*]; omega)), rfl⟩

set_option maxHeartbeats 1000000 in
theorem fcheck_any (f : Fl) (w : World) :
    Calls Tryz.prog 111 #[.int .i64 32, .agg #[.int .i64 f.id, .int .i64 f.fr, .int .i64 f.tn, .int .i64 f.pe, .int .i64 f.ph, .int .i64 f.dl]] w fun e w' => e = .returned (.int .i64 (fault f)) ∧ Below w.heap.size w w' := by
  obtain ⟨T, hT⟩ : ∃ T, T = fault f := ⟨_, rfl⟩
  rw [← hT]
  have HT := Lib.hid (fun R h => hT.trans (fault_eq f R h).symm)
  clear hT
  obtain ⟨id, fr, tn, pe, ph, dl⟩ := f
  dsimp only at HT
  go_enter Tryz.func111, Tryz.ntmps111
  go_wp2_with (go_at_call 155; (with_reducible refine (fcheck1_any _ _ _ (by simp)).mono ?_); rintro e w' ⟨rfl, rfl⟩)
  all_goals
    go_ret
    refine ⟨ret_int (HT.out _ ?_).symm, by repeat (first | exact Below.refl _ _ | refine Below.alloc ?_ (by simp) _ )⟩
    try simp only [decide_eq_true_eq, Bool.not_eq_true', Bool.not_eq_false', decide_eq_false_iff_not, beq_iff_eq, beq_eq_false_iff_ne, ne_eq] at *
    first
      | (rw [if_neg (by omega)]; done)
      | (rw [if_pos (by omega), if_pos (by omega)]; done)
      | (rw [if_pos (by omega), if_neg (by omega)]; done)

theorem alone_any (f : Fl) (w : World) :
    Calls Tryz.prog 152 #[.agg #[.int .i64 f.id, .int .i64 f.fr, .int .i64 f.tn, .int .i64 f.pe, .int .i64 f.ph, .int .i64 f.dl]] w fun e w' => e = .returned (.int .i64 (fault f)) ∧ Below w.heap.size w w' := by
  go_enter Tryz.func152, Tryz.ntmps152
  go_wp2_with (go_at_call 111; (with_reducible refine (fcheck_any _ _).mono ?_); rintro e w' ⟨rfl, hb⟩)
  go_ret
  exact ⟨rfl, ((Below.refl _ _).alloc (Nat.le_refl _) _).trans (hb.mono (by simp))⟩

end Go.Proofs.YticnppnejafhdaaGreatDoor
/- Walks: Current, Find, Check of package flow and of its reference. -/
namespace Go.Proofs.YticnppnejafhdaaGreatDoor
open Go.RowKit
open Nd

theorem Lies.at_ {α : Type} {f : α → List Value} {sz : Nat} {w : World} {B : Nat} {A : Option Addr} {l : List α} (h : Lies w B sz A (l.map f)) {k : Nat} {a : α} (ha : l[k]? = some a) :
    ∃ b off, A = some ⟨b, off, none⟩ ∧ b < B ∧ ∀ k a, l[k]? = some a → ∀ j u, (f a)[j]? = some u → w.cell? ⟨b, off + k * sz + j, none⟩ = some u := by
  have hne : l.map f ≠ [] := by
    intro h0
    have : l = [] := by simpa using h0
    subst this
    simp at ha
  obtain ⟨b, off, e, hb, hc⟩ := h hne
  exact ⟨b, off, e, hb, fun k a ha => hc k (f a) (by simp [ha])⟩

end Go.Proofs.YticnppnejafhdaaGreatDoor
/- Walks: Check of package flow, and of its reference. -/
namespace Go.Proofs.YticnppnejafhdaaGreatDoor
open Go.RowKit
open Nd
theorem below_drewN {B : Nat} {a w : World} (h : Below B a w) (n : Nat) : Below B a (w.drewN n) := h.trans ⟨rfl, rfl, rfl, Nat.le_refl _, fun _ _ => rfl⟩

set_option maxRecDepth 100000 in
set_option maxHeartbeats 2000000 in
theorem fCheck_any (l : List Fl) (A : Option Addr) (c : Nat) (w : World) (hA : Lies w w.heap.size 6 A (l.map Fl.row)) (hl : l.length ≤ 1000000) :
    Calls Tryz.prog 81 #[.int .i64 32, .slice A l.length c] w fun e w' => e = .returned (.tuple #[.int .i64 (chkF l).1, .int .i64 (chkF l).2]) ∧ Below w.heap.size w w' := by
  obtain ⟨T, hT⟩ : ∃ T, T = chkF l := ⟨_, rfl⟩
  rw [← hT]
  obtain ⟨n, hn⟩ : ∃ n, n = l.length := ⟨_, rfl⟩
  rw [← hn] at hl ⊢
  by_cases h16 : 16 < n
  · have HE : Hid (T = (-1, 8)) := Lib.hid (by rw [hT]; unfold chkF; rw [if_pos (by omega)])
    clear hn hT hA
    go_enter Tryz.func81, Tryz.ntmps81
    go_wp2_with (fail)
    go_ret2
    exact ⟨by rw [HE.out]; rfl, Below.refl _ _⟩
  have HT : Hid (T = chkGo none 0 l) := Lib.hid (by rw [hT]; unfold chkF; rw [if_neg (by omega)])
  have HN := Lib.hid hn
  clear hn hT
  have h17 : decide ((16 : Int) < (n : Int)) = false := decide_eq_false (by omega)
  go_enter Tryz.func81, Tryz.ntmps81
  go_wp2_with (fail)
  go_loopw [20] (fun i wr => ∃ (k : Nat), k ≤ n ∧ i = .int .i64 k ∧ Below w.heap.size w wr ∧ Hid (T = chkGo (if k = 0 then none else l[k - 1]?) k (l.drop k))) (fun i _ => n - (intOf i).toNat)
  case atStart => exact ⟨0, Nat.zero_le _, rfl, Below.refl _ _, Lib.hid (by rw [HT.out]; rfl)⟩
  case round =>
    obtain ⟨k, hk, rfl, hb, hst⟩ := hrel
    by_cases hlt : k < n
    · obtain ⟨a, ha⟩ := get_of_lt (l := l) (k := k) (by rw [← HN.out]; exact hlt)
      obtain ⟨b, off, rfl, hbB, hcs⟩ := (Lies.below hA hb).at_ ha
      have Hcs := Lib.hid hcs
      have c0 := hcs k a ha 0 _ rfl
      have c1 := hcs k a ha 1 _ rfl
      have c2 := hcs k a ha 2 _ rfl
      have c3 := hcs k a ha 3 _ rfl
      have c4 := hcs k a ha 4 _ rfl
      have c5 := hcs k a ha 5 _ rfl
      simp only [Nat.add_zero] at c0 c1 c2 c3 c4 c5
      have hst' : Hid (T = if fault a = 0 then (if notUp (if k = 0 then none else l[k - 1]?) a = true then ((k : Int), 5) else chkGo (some a) ((k : Int) + 1) (l.drop (k + 1))) else ((k : Int), fault a)) := Lib.hid (by rw [hst.out, drop_of_get ha]; rfl)
      have hnext : Hid (some a = (if k + 1 = 0 then none else l[k + 1 - 1]?)) := Lib.hid (by rw [if_neg (by omega), Nat.add_sub_cancel, ha])
      have con := fun W => fcheck_any a W
      by_cases hf : fault a = 0
      case neg =>
        have HE : Hid (T = ((k : Int), fault a)) := Lib.hid (by rw [hst'.out, if_neg hf])
        generalize fault a = F at *
        have hf' : (F != 0) = true := by simpa using hf
        clear hcs ha hst hst' hnext hf
        go_wp2_with (go_at_call 111; (with_reducible refine (con _).mono ?_); rintro e w2 ⟨rfl, hb2⟩)
        go_ret2
        exact ⟨by rw [HE.out]; rfl, (hb.alloc hb.size _).trans (hb2.mono (by simp; have := hb.size; omega))⟩
      rw [hf] at con
      have HC := Lib.hid con
      have hst2 : Hid (T = if notUp (if k = 0 then none else l[k - 1]?) a = true then ((k : Int), 5) else chkGo (if k + 1 = 0 then none else l[k + 1 - 1]?) ((k + 1 : Nat) : Int) (l.drop (k + 1))) := Lib.hid (by rw [hst'.out, if_pos hf, ← hnext.out]; rfl)
      clear con hst' hnext hst hf
      have ROW := Lib.hid (fun W (hW : Below (wr.heap.size + 1) (wr.alloc (.cells #[.int .i64 a.id, .int .i64 a.fr, .int .i64 a.tn, .int .i64 a.pe, .int .i64 a.ph, .int .i64 a.dl] 28)) W) => (Row.new wr [.int .i64 a.id, .int .i64 a.fr, .int .i64 a.tn, .int .i64 a.pe, .int .i64 a.ph, .int .i64 a.dl] 28).below hW (by omega))
      have HB2 := Lib.hid (fun W (hW : Below (wr.heap.size + 1) (wr.alloc (.cells #[.int .i64 a.id, .int .i64 a.fr, .int .i64 a.tn, .int .i64 a.pe, .int .i64 a.ph, .int .i64 a.dl] 28)) W) => (show Below w.heap.size w W ∧ Below wr.heap.size wr W from ⟨((hb.alloc hb.size _).trans (hW.mono (by have := hb.size; omega))), ((Below.refl _ _).alloc (Nat.le_refl _) _).trans (hW.mono (by omega))⟩))
      by_cases hk0 : k = 0
      · subst hk0
        simp only [Nat.zero_mul, Nat.add_zero] at c0 c1 c2 c3 c4 c5
        have hst3 : Hid (T = chkGo (if 0 + 1 = 0 then none else l[0 + 1 - 1]?) ((0 + 1 : Nat) : Int) (l.drop (0 + 1))) := Lib.hid (by rw [hst2.out, if_neg (by simp [notUp])])
        have hd0 : decide ((0 : Int) < ((0 : Nat) : Int)) = false := rfl
        clear hst2 hcs ha
        go_wp2_with (go_at_call 111; (with_reducible refine (HC.out _).mono ?_); rintro e w2 ⟨rfl, hb2⟩)
        have hB := (HB2.out _ (by simpa using hb2)).1
        go_quiet (fail)
        go_wp2_with fail
        go_roundw
        case rel => exact ⟨0 + 1, by omega, by go_num, by first | exact hB | exact below_drewN hB _, hst3⟩
        case measure => simp [intOf]; omega
      · obtain ⟨j, rfl⟩ : ∃ j, k = j + 1 := ⟨k - 1, by omega⟩
        obtain ⟨p, hp⟩ := get_of_lt (l := l) (k := j) (by rw [← HN.out]; omega)
        have hp0 := Hcs.out j p hp 0 _ rfl
        simp only [Nat.add_zero] at hp0
        have hki : decide ((0 : Int) < ((j + 1 : Nat) : Int)) = true := by simp
        have hw1 : IntKind.i64.wrap (((j + 1 : Nat) : Int) - 1) = (j : Int) := by rw [IntWalk.i64_in _ (by omega)]; omega
        have hjn : j < n := by omega
        by_cases hup : a.id ≤ p.id
        · have HE : Hid (T = (((j + 1 : Nat) : Int), 5)) := Lib.hid (by rw [hst2.out, if_pos (by rw [if_neg (by omega), Nat.add_sub_cancel, hp]; simpa [notUp] using hup)])
          clear hst2 hcs ha hp
          go_wp2_with (go_at_call 111; (with_reducible refine (HC.out _).mono ?_); rintro e w2 ⟨rfl, hb2⟩)
          have hB := HB2.out _ (by simpa using hb2)
          have rw2 := ROW.out _ (by simpa using hb2)
          have q0 : w2.cell? ⟨b, off + j * 6, none⟩ = some (.int .i64 p.id) := (hB.2.cell (p := ⟨b, off + j * 6, none⟩) (Nat.lt_of_lt_of_le hbB hb.size)).trans hp0
          have q1 : w2.cell? ⟨b, off + (j + 1) * 6, none⟩ = some (.int .i64 a.id) := (hB.2.cell (p := ⟨b, off + (j + 1) * 6, none⟩) (Nat.lt_of_lt_of_le hbB hb.size)).trans c0
          unfold Row at rw2
          clear c0 c1 c2 c3 c4 c5 hp0
          go_quiet (fail)
          go_wp2_with fail
          go_ret2
          exact ⟨by rw [HE.out]; rfl, by first | exact hB.1 | exact below_drewN hB.1 _⟩
        · have hst3 := Lib.hid (hst2.out.trans (if_neg (by rw [if_neg (by omega), Nat.add_sub_cancel, hp]; simpa [notUp] using hup)))
          have hup' : p.id < a.id := by omega
          clear hst2 hcs ha hp hup
          go_wp2_with (go_at_call 111; (with_reducible refine (HC.out _).mono ?_); rintro e w2 ⟨rfl, hb2⟩)
          have hB := HB2.out _ (by simpa using hb2)
          have rw2 := ROW.out _ (by simpa using hb2)
          have q0 : w2.cell? ⟨b, off + j * 6, none⟩ = some (.int .i64 p.id) := (hB.2.cell (p := ⟨b, off + j * 6, none⟩) (Nat.lt_of_lt_of_le hbB hb.size)).trans hp0
          have q1 : w2.cell? ⟨b, off + (j + 1) * 6, none⟩ = some (.int .i64 a.id) := (hB.2.cell (p := ⟨b, off + (j + 1) * 6, none⟩) (Nat.lt_of_lt_of_le hbB hb.size)).trans c0
          unfold Row at rw2
          clear c0 c1 c2 c3 c4 c5 hp0
          go_quiet (fail)
          go_wp2_with fail
          go_roundw
          case rel => exact ⟨j + 1 + 1, by omega, by go_num, by first | exact hB.1 | exact below_drewN hB.1 _, hst3⟩
          case measure => simp [intOf]; omega
    · have HE : Hid (T = (-1, 0)) := Lib.hid (by rw [hst.out, List.drop_of_length_le (by rw [← HN.out]; omega)]; rfl)
      go_wp2_with fail
      go_ret2
      exact ⟨by rw [HE.out]; rfl, hb⟩

end Go.Proofs.YticnppnejafhdaaGreatDoor
/- Walks: below, attempt, Compare, Or, compare of package record. -/
namespace Go.Proofs.YticnppnejafhdaaGreatDoor
open Go.RowKit
open Rc

theorem below_any (n m : Int) (w : World) : Calls Tryz.prog 94 #[.int .i64 n, .int .i64 m] w fun e w' => e = .returned (.bool (belowB n m)) ∧ w = w' := by
  go_enter Tryz.func94, Tryz.ntmps94
  by_cases h : 0 ≤ n
  · go_wp2
    go_ret
    simp [h, belowB]
  · go_wp2
    go_ret
    simp [belowB]; omega

theorem attempt_any (a : Att) (slots : Int) (w : World) : Calls Tryz.prog 136 #[.agg #[.int .i64 a.s, .int .i64 a.f, .int .i64 a.cs, .int .i64 a.co, .int .i64 a.cf, .int .i64 a.ct, .int .i64 a.cl, .int .i64 a.o], .int .i64 slots] w fun e w' => e = .returned (.bool (attB a slots)) ∧ Below w.heap.size w w' := by
  obtain ⟨s, f, cs, co, cf, ct, cl, o⟩ := a
  go_enter Tryz.func136, Tryz.ntmps136
  go_wp2_with (go_at_call 94; refine (below_any _ _ _).mono ?_; rintro e w' ⟨rfl, rfl⟩)
  all_goals
    go_ret
    exact ⟨ret_bool (by first | (simp [attB, *]; done) | (simp [attB, *]; omega) | (simp [attB, bne, *]; done)), by repeat (first | exact Below.refl _ _ | refine Below.alloc ?_ (by simp) _ )⟩

theorem isNaN_any (n : Int) (w : World) : Calls Tryz.prog 98 #[.int .i64 n] w fun e w' => e = .returned (.bool false) ∧ w = w' := by
  go_enter Tryz.func98, Tryz.ntmps98
  go_wp2
  go_ret
  simp

theorem cmp_any (x y : Int) (w : World) : Calls Tryz.prog 62 #[.int .i64 x, .int .i64 y] w fun e w' => e = .returned (.int .i64 (cmpI x y)) ∧ w = w' := by
  go_enter Tryz.func62, Tryz.ntmps62
  go_wp2_with (go_at_call 98; refine (isNaN_any _ _).mono ?_; rintro e w' ⟨rfl, rfl⟩)
  all_goals
    go_ret
    exact ⟨ret_int (by unfold cmpI; repeat' split; all_goals first | rfl | omega), rfl⟩

theorem or_any (l : List Int) (b off c : Nat) (w : World) (hn : l.length ≤ 1000) (hc : ∀ k x, l[k]? = some x → w.cell? ⟨b, off + k, none⟩ = some (.int .i64 x)) :
    Calls Tryz.prog 61 #[.slice (some ⟨b, off, none⟩) l.length c] w fun e w' => e = .returned (.int .i64 (orI l)) ∧ w = w' := by
  obtain ⟨n, hl⟩ : ∃ n, n = l.length := ⟨_, rfl⟩
  rw [← hl] at hn ⊢
  have HL := Lib.hid hl
  clear hl
  go_enter Tryz.func61, Tryz.ntmps61
  go_wp2
  go_loop [2, 8] (fun r i => ∃ k : Nat, k ≤ n ∧ i = .int .i64 k ∧ r = .int .i64 0 ∧ Hid (orI l = orI (l.drop k))) (fun _ i => n - (intOf i).toNat)
  case atStart => exact ⟨0, Nat.zero_le _, rfl, rfl, Lib.hid rfl⟩
  case round =>
    obtain ⟨k, hk, rfl, rfl, hst⟩ := hrel
    by_cases hlt : k < n
    · obtain ⟨x, hx⟩ := get_of_lt (l := l) (k := k) (by rw [← HL.out]; exact hlt)
      have hcx := hc k x hx
      have hd := Lib.hid (drop_of_get hx)
      clear hx
      by_cases h0 : x = 0
      · subst h0
        go_wp2
        go_round
        case rel => exact ⟨k + 1, by omega, by go_num, rfl, Lib.hid (by rw [hst.out, hd.out]; simp [orI])⟩
        case measure => simp [intOf]; omega
      · go_wp2
        go_ret
        exact ⟨ret_int (by rw [hst.out, hd.out]; simp [orI, h0]), rfl⟩
    · go_wp2
      go_ret
      exact ⟨ret_int (by rw [hst.out, List.drop_of_length_le (by rw [← HL.out]; omega)]; rfl), rfl⟩

set_option maxRecDepth 100000 in
set_option maxHeartbeats 1000000 in
theorem compare_any (x y : Att) (w : World) : Calls Tryz.prog 137 #[.agg #[.int .i64 x.s, .int .i64 x.f, .int .i64 x.cs, .int .i64 x.co, .int .i64 x.cf, .int .i64 x.ct, .int .i64 x.cl, .int .i64 x.o], .agg #[.int .i64 y.s, .int .i64 y.f, .int .i64 y.cs, .int .i64 y.co, .int .i64 y.cf, .int .i64 y.ct, .int .i64 y.cl, .int .i64 y.o]] w
    fun e w' => e = .returned (.int .i64 (cmpA x y)) ∧ Below w.heap.size w w' := by
  obtain ⟨s, f, cs, co, cf, ct, cl, o⟩ := x
  obtain ⟨s', f', cs', co', cf', ct', cl', o'⟩ := y
  go_enter Tryz.func137, Tryz.ntmps137
  go_upto_region 1 with fail
  go_cut [5, 6] (fun s5 s6 W => ∃ g5 g6 : Nat, s5 = .pointer (some ⟨g5, 0, none⟩) ∧ s6 = .pointer (some ⟨g6, 0, none⟩) ∧ g5 < W.heap.size ∧ g6 < W.heap.size ∧ w.heap.size + 1 < W.heap.size ∧ Below w.heap.size w W ∧
      Row W w.heap.size [.int .i64 s, .int .i64 f, .int .i64 cs, .int .i64 co, .int .i64 cf, .int .i64 ct, .int .i64 cl, .int .i64 o] ∧
      Row W (w.heap.size + 1) [.int .i64 s', .int .i64 f', .int .i64 cs', .int .i64 co', .int .i64 cf', .int .i64 ct', .int .i64 cl', .int .i64 o'] ∧
      Row W g5 [.int .i64 cs, .int .i64 co, .int .i64 cf, .int .i64 ct, .int .i64 cl] ∧ Row W g6 [.int .i64 cs', .int .i64 co', .int .i64 cf', .int .i64 ct', .int .i64 cl'])
  case first =>
    go_region
    all_goals
      go_wp2_with fail
      go_meet
      refine ⟨_, _, rfl, rfl, ?_, ?_, ?_, ?_, ?_, ?_, ?_, ?_⟩
      all_goals first
        | (simp; done)
        | (simp; omega)
        | (refine Below.drew (Below.alloc (Below.alloc (Below.alloc (Below.alloc (Below.refl _ _) ?_ _) ?_ _) ?_ _) ?_ _) <;> (simp; try omega))
        | (refine Row.drew ?_; refine Row.new' _ _ ?_; simp; done)
        | (refine Row.drew ?_; refine Row.alloc (Row.new' _ _ ?_) ?_ _ <;> simp; done)
        | (refine Row.drew ?_; refine Row.alloc (Row.alloc (Row.new' _ _ ?_) ?_ _) ?_ _ <;> (simp; try omega); done)
        | (refine Row.drew ?_; refine Row.alloc (Row.alloc (Row.alloc (Row.new' _ _ ?_) ?_ _) ?_ _) ?_ _ <;> (simp; try omega); done)
  case rest =>
    obtain ⟨g5, g6, rfl, rfl, h5, h6, hz, hb, r2, r3, r5, r6⟩ := hcut
    have x2 := r2.ext (B := wc.heap.size) (by omega)
    have x3 := r3.ext (B := wc.heap.size) (by omega)
    have x5 := r5.ext (B := wc.heap.size) h5
    have x6 := r6.ext (B := wc.heap.size) h6
    go_wp2_with fail
    refine wp_region_ext_tail wc.heap.size 30 (by kernel_rfl) (by kernel_rfl) ?_
    simp only [List.take_succ_cons, List.take_zero, List.drop_succ_cons, List.drop_zero]
    repeat (go_big_quiet_step ((go_at_call 62; exact Calls.ext_same (cmp_any _ _ _))))
    refine wpQuiet_nil ?_
    rintro _ ⟨x, rfl⟩
    have hb' := hb.trans (x.below.mono hb.size)
    obtain ⟨W, hW⟩ := x
    go_wp2_with (go_at_call 61; refine (or_any [cmpI s s', cmpI cs cs', cmpI co co', cmpI cf cf', cmpI ct ct', cmpI cl cl'] _ 0 6 _ (by simp) ?_).mono ?_)
    · exact fun k x hx => ints_get hx
    go_ret
    exact ⟨rfl, hb'.alloc (hb'.size) _⟩

end Go.Proofs.YticnppnejafhdaaGreatDoor
/- Plain laws on bits: masks of 32 bits as lists of numbers. -/
namespace Go.Proofs.YticnppnejafhdaaGreatDoor
namespace Rc
open Go.RowKit

def maskN (S : List Int) : Nat := S.foldr (fun k m => m ||| 2 ^ k.toNat) 0
def In32 (S : List Int) : Prop := ∀ k ∈ S, 0 ≤ k ∧ k < 32

theorem maskN_lt (S : List Int) (h : In32 S) : maskN S < 2 ^ 32 := by
  induction S with
  | nil => simp [maskN]
  | cons k S ih =>
    have h1 : maskN S < 2 ^ 32 := ih fun x hx => h x (List.mem_cons_of_mem _ hx)
    have hk := h k List.mem_cons_self
    show maskN S ||| 2 ^ k.toNat < 2 ^ 32
    exact Nat.or_lt_two_pow h1 (Nat.pow_lt_pow_right (by omega) (by omega))

theorem maskN_test (S : List Int) (h : In32 S) (k : Int) (hk : 0 ≤ k) : (maskN S).testBit k.toNat = decide (k ∈ S) := by
  induction S with
  | nil => simp [maskN]
  | cons j S ih =>
    have h1 := ih fun x hx => h x (List.mem_cons_of_mem _ hx)
    have hj := h j List.mem_cons_self
    show (maskN S ||| 2 ^ j.toNat).testBit k.toNat = _
    rw [Nat.testBit_or, h1, Nat.testBit_two_pow]
    have e : (j.toNat = k.toNat) ↔ k = j := by omega
    by_cases hkj : k = j
    · simp [hkj]
    · have : ¬ j.toNat = k.toNat := by omega
      simp [hkj, this]

theorem bits_and_u32 (a b : Nat) (ha : a < 2 ^ 32) (hb : b < 2 ^ 32) : bits .and .u32 (a : Int) (b : Int) = ((a &&& b : Nat) : Int) := by
  have h : a &&& b < 2 ^ 32 := Nat.lt_of_le_of_lt Nat.and_le_left ha
  show IntKind.u32.wrap ((BitVec.ofInt 32 (a : Int) &&& BitVec.ofInt 32 (b : Int)).toNat : Int) = _
  rw [BitVec.toNat_and, BitVec.ofInt_natCast, BitVec.ofInt_natCast, BitVec.toNat_ofNat, BitVec.toNat_ofNat, Nat.mod_eq_of_lt (by omega), Nat.mod_eq_of_lt (by omega)]
  generalize a &&& b = c at h ⊢
  simp [IntKind.wrap, IntKind.bits, IntKind.signed]
  omega

theorem bits_or_u32 (a b : Nat) (ha : a < 2 ^ 32) (hb : b < 2 ^ 32) : bits .or .u32 (a : Int) (b : Int) = ((a ||| b : Nat) : Int) := by
  have h : a ||| b < 2 ^ 32 := Nat.or_lt_two_pow ha hb
  show IntKind.u32.wrap ((BitVec.ofInt 32 (a : Int) ||| BitVec.ofInt 32 (b : Int)).toNat : Int) = _
  rw [BitVec.toNat_or, BitVec.ofInt_natCast, BitVec.ofInt_natCast, BitVec.toNat_ofNat, BitVec.toNat_ofNat, Nat.mod_eq_of_lt (by omega), Nat.mod_eq_of_lt (by omega)]
  generalize a ||| b = c at h ⊢
  simp [IntKind.wrap, IntKind.bits, IntKind.signed]
  omega

/-- 'senders>>from&1 == 1' -/
theorem mask_asked (S : List Int) (h : In32 S) (k : Int) (hk : 0 ≤ k) (_hk' : k < 32) : (bits .and .u32 ((maskN S : Int) / 2 ^ k.toNat) 1 == 1) = decide (k ∈ S) := by
  have hlt := maskN_lt S h
  have e : ((maskN S : Int) / 2 ^ k.toNat) = ((maskN S / 2 ^ k.toNat : Nat) : Int) := by simp
  rw [e, show (1 : Int) = ((1 : Nat) : Int) from rfl, bits_and_u32 _ _ (Nat.lt_of_le_of_lt (Nat.div_le_self _ _) hlt) (by decide), ← maskN_test S h k hk, Nat.testBit, Nat.shiftRight_eq_div_pow]
  generalize maskN S / 2 ^ k.toNat = c
  rw [Nat.and_comm 1 c, Nat.and_one_is_mod]
  rcases Nat.mod_two_eq_zero_or_one c with h0 | h0 <;> rw [h0] <;> rfl

/-- 'senders |= 1 << from' -/
theorem mask_more (S : List Int) (h : In32 S) (k : Int) (hk : 0 ≤ k) (hk' : k < 32) : bits .or .u32 (maskN S : Int) (2 ^ k.toNat % 4294967296) = (maskN (k :: S) : Int) := by
  have hlt := maskN_lt S h
  have hp : 2 ^ k.toNat < 2 ^ 32 := Nat.pow_lt_pow_right (by omega) (by omega)
  have e : (2 ^ k.toNat % 4294967296 : Int) = ((2 ^ k.toNat : Nat) : Int) := by
    have : (2 ^ k.toNat : Int) = ((2 ^ k.toNat : Nat) : Int) := by simp
    rw [this]
    generalize 2 ^ k.toNat = c at hp ⊢
    omega
  rw [e, bits_or_u32 _ _ hlt hp]
  rfl
end Rc
end Go.Proofs.YticnppnejafhdaaGreatDoor
/- Walk: attempts of package record. -/
namespace Go.Proofs.YticnppnejafhdaaGreatDoor
open Go.RowKit
open Rc

theorem attB_from {a : Att} {slots : Int} (h : attB a slots = true) : 0 ≤ a.cf ∧ a.cf < 32 := by
  simp [attB, belowB] at h
  omega

set_option maxRecDepth 100000 in
set_option maxHeartbeats 2000000 in
theorem attempts_any (l : List Att) (A : Option Addr) (c : Nat) (slots : Int) (w : World) (hn : l.length ≤ 65536) (hl : LiesA w w.heap.size A l) :
    Calls Tryz.prog 93 #[.slice A l.length c, .int .i64 slots] w fun e w' => e = .returned (.bool (attsB l slots)) ∧ Below w.heap.size w w' := by
  obtain ⟨n, hln⟩ : ∃ n, n = l.length := ⟨_, rfl⟩
  rw [← hln] at hn ⊢
  have HL := Lib.hid hln
  clear hln
  go_enter Tryz.func93, Tryz.ntmps93
  go_wp2
  go_loopw [4, 5, 6, 11] (fun s4 s5 s6 i wr => ∃ (k : Nat) (S : List Int) (at_ : Int), k ≤ n ∧ i = .int .i64 k ∧ s4 = .bool false ∧ s5 = .int .u32 (maskN S) ∧ s6 = .int .i64 at_ ∧ In32 S ∧ Below w.heap.size w wr ∧
      Hid (attsB l slots = attsGo slots (if k = 0 then none else l[k - 1]?) S at_ (l.drop k))) (fun _ _ _ i _ => n - (intOf i).toNat)
  case atStart => exact ⟨0, [], -1, Nat.zero_le _, rfl, rfl, rfl, rfl, fun k hk => by simp at hk, Below.refl _ _, Lib.hid rfl⟩
  case round =>
    obtain ⟨k, S, at_, hk, rfl, rfl, rfl, rfl, hS, hb, hst⟩ := hrel
    by_cases hlt : k < n
    · obtain ⟨a, ha⟩ := get_of_lt (l := l) (k := k) (by rw [← HL.out]; exact hlt)
      obtain ⟨b, off, rfl, hbB, hcs⟩ := (hl.below hb).at_ ha
      obtain ⟨c0, c1, c2, c3, c4, c5, c6, c7⟩ := hcs k a ha
      have hd := Lib.hid (drop_of_get ha)
      have Hcs := Lib.hid hcs
      clear hcs
      have Ha := Lib.hid ha
      clear ha
      go_upto_region 5 with fail
      generalize hW1 : wr.alloc _ = W1
      have hb1 : Below w.heap.size w W1 := by rw [← hW1]; exact hb.alloc hb.size _
      have hz1 : wr.heap.size < W1.heap.size := by rw [← hW1]; simp
      have row8 : Row W1 wr.heap.size [.int .i64 a.s, .int .i64 a.f, .int .i64 a.cs, .int .i64 a.co, .int .i64 a.cf, .int .i64 a.ct, .int .i64 a.cl, .int .i64 a.o] := by rw [← hW1]; exact Row.new wr _ _
      have hkeep : ∀ p : Addr, p.block < w.heap.size → W1.cell? p = wr.cell? p := fun p hp => by rw [← hW1]; exact World.cell?_alloc_lt wr _ p (Nat.lt_of_lt_of_le hp hb.size)
      have HK := Lib.hid hkeep
      clear hkeep c0 c1 c2 c3 c4 c5 c6 c7 hW1
      go_cut [33] (fun s33 W => s33 = .bool (!attB a slots || prevBad (if k = 0 then none else l[k - 1]?) a) ∧ Below w.heap.size w W ∧ Below W1.heap.size W1 W)
      case first =>
        have x8 := row8.ext (B := W1.heap.size) hz1
        have con := fun W => attempt_any a slots W
        cases hat : attB a slots with
        | false =>
          rw [hat] at con
          have Con := Lib.hid con
          clear con
          refine wp_region_ext W1.heap.size (by kernel_rfl) (by kernel_rfl) ?_
          repeat (go_big_quiet_step ((go_at_call 136; exact Calls.ext_of (Con.out _) (Nat.le_refl _))))
          refine wpQuiet_nil ?_
          rintro _ ⟨x, rfl⟩
          go_wp2_with fail
          go_meet
          exact ⟨by rw [hat]; rfl, hb1.trans (x.below.mono hb1.size), x.below⟩
        | true =>
          rw [hat] at con
          have Con := Lib.hid con
          clear con
          by_cases hk0 : k = 0
          · subst hk0
            have hd0 : decide ((0 : Int) < ((0 : Nat) : Int)) = false := rfl
            refine wp_region_ext W1.heap.size (by kernel_rfl) (by kernel_rfl) ?_
            repeat (go_big_quiet_step ((go_at_call 136; exact Calls.ext_of (Con.out _) (Nat.le_refl _))))
            refine wpQuiet_nil ?_
            rintro _ ⟨x, rfl⟩
            go_wp2_with fail
            go_meet
            exact ⟨by rw [hat]; rfl, hb1.trans (x.below.mono hb1.size), x.below⟩
          · obtain ⟨j, rfl⟩ : ∃ j, k = j + 1 := ⟨k - 1, by omega⟩
            obtain ⟨p, hp⟩ := get_of_lt (l := l) (k := j) (by rw [← HL.out]; omega)
            have hcp := Hcs.out j p hp
            have hx : ∀ (x : ExtW W1.heap.size W1) (j : Nat), x.val.cell? ⟨b, j, none⟩ = wr.cell? ⟨b, j, none⟩ := fun x j => (x.cell _ (Nat.lt_of_lt_of_le hbB hb1.size)).trans (HK.out _ hbB)
            obtain ⟨p0, p1, p2, p3, p4, p5, p6, p7⟩ := hcp
            have hki : decide ((0 : Int) < ((j + 1 : Nat) : Int)) = true := by simp
            have hw1 : IntKind.i64.wrap (((j + 1 : Nat) : Int) - 1) = (j : Int) := by rw [IntWalk.i64_in _ (by omega)]; omega
            have hjn : (j : Int) < (n : Int) := by omega
            have con2 := fun W => compare_any p a W
            have Con2 := Lib.hid con2
            have HP := Lib.hid hp
            clear con2 hp
            refine wp_region_ext W1.heap.size (by kernel_rfl) (by kernel_rfl) ?_
            repeat (go_big_quiet_step ((first | (go_at_call 136; exact Calls.ext_of (Con.out _) (Nat.le_refl _)) | (go_at_call 137; exact Calls.ext_of (Con2.out _) (Nat.le_refl _)))))
            refine wpQuiet_nil ?_
            rintro _ ⟨x, rfl⟩
            go_wp2_with fail
            go_meet
            exact ⟨by simp [prevBad, HP.out, hat], hb1.trans (x.below.mono hb1.size), x.below⟩
      case rest =>
        obtain ⟨rfl, hb2, hb3⟩ := hcut
        have row8' := row8.below hb3 hz1
        have hst' := hst.out
        rw [hd.out] at hst'
        simp only [attsGo] at hst'
        have x8 : ∀ i, wc.cell? ⟨wr.heap.size, i, none⟩ = _ := row8'
        generalize hbad : (!attB a slots || prevBad (if k = 0 then none else l[k - 1]?) a) = bad at hst' ⊢
        cases bad with
        | true =>
          have hfin := Lib.hid hst'
          clear hst' hbad
          go_wp2
          go_ret
          exact ⟨ret_bool (by rw [hfin.out]; rfl), hb2⟩
        | false =>
          simp only [Bool.false_eq_true, if_false] at hst'
          obtain ⟨f0, f1⟩ := attB_from (a := a) (slots := slots) (by revert hbad; cases attB a slots <;> simp)
          clear hbad
          by_cases hsl : a.s = at_
          · rw [if_pos hsl] at hst'
            by_cases hin : a.cf ∈ S
            · rw [if_pos hin] at hst'
              have hfin := Lib.hid hst'
              have hm : (bits .and .u32 ((maskN S : Int) / 2 ^ a.cf.toNat) 1 == 1) = true := by rw [mask_asked S hS _ f0 f1]; simp [hin]
              clear hst'
              subst hsl
              go_wp2
              go_ret
              exact ⟨ret_bool (by rw [hfin.out]), hb2⟩
            · rw [if_neg hin] at hst'
              have hfin := Lib.hid hst'
              have hm : (bits .and .u32 ((maskN S : Int) / 2 ^ a.cf.toNat) 1 == 1) = false := by rw [mask_asked S hS _ f0 f1]; simp [hin]
              clear hst'
              subst hsl
              go_wp2
              go_roundw
              case rel => exact ⟨k + 1, a.cf :: S, a.s, by omega, by go_num, rfl, by rw [mask_more S hS _ f0 f1], rfl, fun j hj => by rcases List.mem_cons.1 hj with h | h; exact h ▸ ⟨f0, f1⟩; exact hS j h, hb2, Lib.hid (by rw [hfin.out, if_neg (by omega), show k + 1 - 1 = k from rfl, Ha.out])⟩
              case measure => simp [intOf]; omega
          · rw [if_neg hsl] at hst'
            have hfin := Lib.hid hst'
            have hm : (bits .and .u32 (0 / 2 ^ a.cf.toNat) 1 == 1) = false := by have := mask_asked [] (fun k hk => by simp at hk) _ f0 f1; simpa [maskN] using this
            have hm2 := mask_more [] (fun k hk => by simp at hk) _ f0 f1
            have hm0 : ((maskN [] : Nat) : Int) = 0 := rfl
            rw [hm0] at hm2
            have Hm2 := Lib.hid hm2
            have hne : (a.s == at_) = false := by simpa using hsl
            have hne2 : (a.s != at_) = true := by simpa using hsl
            clear hst' hm2 hm0
            go_wp2
            go_quiet (fail)
            go_wp2
            go_roundw
            case rel => exact ⟨k + 1, [a.cf], a.s, by omega, by go_num, rfl, by rw [Hm2.out], rfl, fun j hj => by simp at hj; exact hj ▸ ⟨f0, f1⟩, below_drewN hb2 _, Lib.hid (by rw [hfin.out, if_neg (by omega), show k + 1 - 1 = k from rfl, Ha.out])⟩
            case measure => simp [intOf]; omega
    · go_wp2
      go_ret
      exact ⟨ret_bool (by rw [hst.out, List.drop_of_length_le (by rw [← HL.out]; omega)]; simp [attsGo]), hb⟩

end Go.Proofs.YticnppnejafhdaaGreatDoor
/- Walk: Check of package record. -/
namespace Go.Proofs.YticnppnejafhdaaGreatDoor
open Go.RowKit
open Rc

theorem check_short {r : Rec} (h : ¬ (0 ≤ r.slots ∧ r.slots ≤ 4096 ∧ r.al.length ≤ 65536 ∧ r.dl.length ≤ 65536 ∧ attsB r.al r.slots = true)) : checkE r = 1 := by
  unfold checkE
  rw [if_neg]
  intro hg
  simp [good] at hg
  exact h ⟨hg.1, hg.2.1, hg.2.2.1, hg.2.2.2.1, hg.2.2.2.2.1⟩
theorem check_long {r : Rec} (h0 : 0 ≤ r.slots) (h1 : r.slots ≤ 4096) (h2 : r.al.length ≤ 65536) (h3 : r.dl.length ≤ 65536) (h4 : attsB r.al r.slots = true) : checkE r = if dlvsB r.dl r.slots then 0 else 1 := by
  unfold checkE
  congr 1
  simp [good, h0, h1, h2, h3, h4]

set_option maxRecDepth 100000 in
set_option maxHeartbeats 2000000 in
theorem check_any (r : Rec) (A D : Option Addr) (ca cd : Nat) (w : World) (hA : LiesA w w.heap.size A r.al) (hD : LiesD w w.heap.size D r.dl) (hla : r.al.length ≤ 9223372036854775807) (hld : r.dl.length ≤ 9223372036854775807) :
    Calls Tryz.prog 56 #[.agg #[.int .i64 r.slots, .slice A r.al.length ca, .slice D r.dl.length cd]] w fun e w' => e = .returned (.int .i64 (checkE r)) ∧ Below w.heap.size w w' := by
  obtain ⟨slots, al, dl⟩ := r
  dsimp only at *
  have hshort := @check_short ⟨slots, al, dl⟩
  have hlong := @check_long ⟨slots, al, dl⟩
  dsimp only at hshort hlong
  have hnA : ∃ n, n = al.length := ⟨_, rfl⟩
  obtain ⟨na, hna⟩ := hnA
  have hnD : ∃ n, n = dl.length := ⟨_, rfl⟩
  obtain ⟨nd, hnd⟩ := hnD
  rw [← hna, ← hnd] at hshort hlong ⊢
  rw [← hna] at hla
  rw [← hnd] at hld
  have HA := Lib.hid hna
  have HD := Lib.hid hnd
  clear hna hnd
  by_cases h0 : slots < 0
  · have hfin := Lib.hid (hshort (by omega))
    clear hshort hlong
    go_enter Tryz.func56, Tryz.ntmps56
    go_wp2
    go_ret
    exact ⟨ret_int (by rw [hfin.out]), ((Below.refl _ _).alloc (Nat.le_refl _) _).alloc (by simp) _⟩
  by_cases h1 : 4096 < slots
  · have hfin := Lib.hid (hshort (by omega))
    clear hshort hlong
    go_enter Tryz.func56, Tryz.ntmps56
    go_wp2
    go_ret
    exact ⟨ret_int (by rw [hfin.out]), ((Below.refl _ _).alloc (Nat.le_refl _) _).alloc (by simp) _⟩
  by_cases h2 : 65536 < na
  · have hfin := Lib.hid (hshort (by omega))
    clear hshort hlong
    go_enter Tryz.func56, Tryz.ntmps56
    go_wp2
    go_ret
    exact ⟨ret_int (by rw [hfin.out]), ((Below.refl _ _).alloc (Nat.le_refl _) _).alloc (by simp) _⟩
  by_cases h3 : 65536 < nd
  · have hfin := Lib.hid (hshort (by omega))
    clear hshort hlong
    go_enter Tryz.func56, Tryz.ntmps56
    go_wp2
    go_ret
    exact ⟨ret_int (by rw [hfin.out]), ((Below.refl _ _).alloc (Nat.le_refl _) _).alloc (by simp) _⟩
  have con : ∀ W, Below w.heap.size w W → Calls Tryz.prog 93 #[.slice A na ca, .int .i64 slots] W fun e w' => e = .returned (.bool (attsB al slots)) ∧ Below W.heap.size W w' := fun W hW => by
    have := attempts_any al A ca slots W (by rw [← HA.out]; omega) ((hA.below hW).more hW.size)
    rwa [← HA.out] at this
  cases hat : attsB al slots with
  | false =>
    rw [hat] at con
    have Con := Lib.hid con
    have hfin := Lib.hid (hshort (by simp [hat]))
    clear hshort hlong con
    go_enter Tryz.func56, Tryz.ntmps56
    go_wp2_with (go_at_call 93; refine (Con.out _ (((Below.refl _ _).alloc (Nat.le_refl _) _).alloc (by simp) _)).mono ?_; rintro e w1 ⟨rfl, hb1⟩)
    go_ret
    exact ⟨ret_int (by rw [hfin.out]), (((Below.refl _ _).alloc (Nat.le_refl _) _).alloc (by simp) _).trans (hb1.mono (by simp; omega))⟩
  | true =>
    rw [hat] at con
    have Con := Lib.hid con
    have hfin := Lib.hid (hlong (by omega) (by omega) (by omega) (by omega) hat)
    clear hshort hlong con hat
    go_enter Tryz.func56, Tryz.ntmps56
    go_wp2_with fail
    refine (Con.out _ (((Below.refl _ _).alloc (Nat.le_refl _) _).alloc (by simp) _)).mono ?_
    rintro e w1 ⟨rfl, hb1⟩
    have row1 : Row w1 w.heap.size [.int .i64 slots, .slice A na ca, .slice D nd cd] := (Row.alloc (Row.new w _ _) (by simp) _).below hb1 (by simp; omega)
    have row3 : Row w1 (w.heap.size + 1) [.slice A na ca, .slice D nd cd] := (Row.new' _ _ (by simp)).below hb1 (by simp)
    have hbw : Below w.heap.size w w1 := (((Below.refl _ _).alloc (Nat.le_refl _) _).alloc (by simp) _).trans (hb1.mono (by simp; omega))
    have hz : w.heap.size + 1 < w1.heap.size := by have := hb1.size; simp at this; omega
    clear hb1
    have R1 := Lib.hid row1
    have R3 := Lib.hid row3
    unfold Row at row1 row3
    go_wp2_with fail
    go_loopw [2, 39] (fun s2 i wr => ∃ (k : Nat), k ≤ nd ∧ i = .int .i64 k ∧ s2 = .int .i64 0 ∧ Below w1.heap.size w1 wr ∧
      Hid (dlvsB dl slots = dlvsGo slots (if k = 0 then none else dl[k - 1]?) (dl.drop k))) (fun _ i _ => nd - (intOf i).toNat)
    case atStart => exact ⟨0, Nat.zero_le _, rfl, rfl, Below.refl _ _, Lib.hid rfl⟩
    case round =>
      obtain ⟨k, hk, rfl, rfl, hb, hst⟩ := hrel
      clear row1 row3
      have row1 := R1.out.below hb (by omega)
      have row3 := R3.out.below hb (by omega)
      have hb0 : Below w.heap.size w wr := hbw.trans (hb.mono hbw.size)
      unfold Row at row1 row3
      by_cases hlt : k < nd
      · obtain ⟨a, ha⟩ := get_of_lt (l := dl) (k := k) (by rw [← HD.out]; exact hlt)
        obtain ⟨b, off, rfl, hbB, hcs⟩ := (hD.below hb0).at_ ha
        obtain ⟨c0, c1, c2⟩ := hcs k a ha
        have hd := Lib.hid (drop_of_get ha)
        have Hcs := Lib.hid hcs
        have Ha := Lib.hid ha
        clear hcs ha
        have hst' := hst.out
        rw [hd.out] at hst'
        simp only [dlvsGo] at hst'
        have Hst := Lib.hid hst'
        clear hst'
        go_upto_region 7 with fail
        generalize hW1 : wr.alloc _ = W1
        have hb1 : Below w1.heap.size w1 W1 := by rw [← hW1]; exact hb.alloc hb.size _
        have hz1 : wr.heap.size < W1.heap.size := by rw [← hW1]; simp
        have row5 : Row W1 wr.heap.size [.int .i64 a.fl, .int .i64 a.fr, .int .i64 a.sl] := by rw [← hW1]; exact Row.new wr _ _
        have hkeep : ∀ p : Addr, p.block < w1.heap.size → W1.cell? p = wr.cell? p := fun p hp => by rw [← hW1]; exact World.cell?_alloc_lt wr _ p (Nat.lt_of_lt_of_le hp hb.size)
        have HK := Lib.hid hkeep
        have hzr := hb.size
        clear hkeep c0 c1 c2 hW1 row1 row3
        have row1 := R1.out.below hb1 (by omega)
        have row3 := R3.out.below hb1 (by omega)
        have R5 := Lib.hid row5
        unfold Row at row1 row3 row5
        go_cut [61] (fun s61 W => s61 = .bool (!dlvB a slots) ∧ W = W1)
        case first =>
          go_wp2_with (go_at_call 94; refine (below_any _ _ _).mono ?_; rintro e w' ⟨rfl, rfl⟩)
          all_goals
            go_meet
            exact ⟨by simp [dlvB, *], rfl⟩
        case rest =>
          obtain ⟨rfl, hwc⟩ := hcut
          subst wc
          cases hdl : dlvB a slots with
          | false =>
            have hst' := Hst.out
            rw [hdl] at hst'
            have hf2 := Lib.hid hst'
            clear hst'
            go_wp2
            go_ret
            exact ⟨ret_int (by rw [hfin.out, hf2.out]; rfl), hbw.trans (hb1.mono hbw.size)⟩
          | true =>
            have hst' := Hst.out
            rw [hdl] at hst'
            simp only [Bool.true_eq_false, if_false] at hst'
            have hf2 := Lib.hid hst'
            clear hst'
            go_upto_region 9 with fail
            go_cut [88] (fun s88 W => s88 = .bool (prevBadD (if k = 0 then none else dl[k - 1]?) a) ∧ Below W1.heap.size W1 W)
            case first =>
              have x1 := R1.out.below hb1 (by omega)
              have x3 := R3.out.below hb1 (by omega)
              have x1' := x1.ext (B := W1.heap.size) (by have := hb1.size; omega)
              have x3' := x3.ext (B := W1.heap.size) (by have := hb1.size; omega)
              have x5' := R5.out.ext (B := W1.heap.size) hz1
              by_cases hk0 : k = 0
              · subst hk0
                have hd0 : decide ((0 : Int) < ((0 : Nat) : Int)) = false := rfl
                refine wp_region_ext W1.heap.size (by kernel_rfl) (by kernel_rfl) ?_
                repeat (go_big_quiet_step (fail))
                refine wpQuiet_nil ?_
                rintro _ ⟨x, rfl⟩
                go_wp2_with fail
                go_meet
                exact ⟨rfl, x.below⟩
              · obtain ⟨j, rfl⟩ : ∃ j, k = j + 1 := ⟨k - 1, by omega⟩
                obtain ⟨p, hp⟩ := get_of_lt (l := dl) (k := j) (by rw [← HD.out]; omega)
                have hcp := Hcs.out j p hp
                have hx : ∀ (x : ExtW W1.heap.size W1) (j : Nat), x.val.cell? ⟨b, j, none⟩ = wr.cell? ⟨b, j, none⟩ := fun x j => (x.cell _ (Nat.lt_of_lt_of_le (Nat.lt_of_lt_of_le hbB hbw.size) hb1.size)).trans (HK.out _ (Nat.lt_of_lt_of_le hbB hbw.size))
                obtain ⟨p0, p1, p2⟩ := hcp
                have hki : decide ((0 : Int) < ((j + 1 : Nat) : Int)) = true := by simp
                have hw1 : IntKind.i64.wrap (((j + 1 : Nat) : Int) - 1) = (j : Int) := by rw [IntWalk.i64_in _ (by omega)]; omega
                have hjn : (j : Int) < (nd : Int) := by omega
                have HP := Lib.hid hp
                clear hp
                refine wp_region_ext_tail W1.heap.size 23 (by kernel_rfl) (by kernel_rfl) ?_
                simp only [List.take_succ_cons, List.take_zero, List.drop_succ_cons, List.drop_zero]
                repeat (go_big_quiet_step ((go_at_call 62; exact Calls.ext_same (cmp_any _ _ _))))
                refine wpQuiet_nil ?_
                rintro _ ⟨x, rfl⟩
                go_wp2_with (go_at_call 61; refine (or_any [cmpI p.sl a.sl, cmpI p.fl a.fl] _ 0 2 _ (by simp) (Row.ints (l := [cmpI p.sl a.sl, cmpI p.fl a.fl]) (Row.new _ [.int .i64 (cmpI p.sl a.sl), .int .i64 (cmpI p.fl a.fl)] _))).mono ?_; rintro e w' ⟨rfl, rfl⟩)
                go_meet
                exact ⟨by congr 1; rw [Bool.eq_iff_iff]; simp [prevBadD, HP.out, cmpD]; exact Iff.intro (fun h => decide_eq_true h) of_decide_eq_true, x.below.alloc x.below.size _⟩
            case rest =>
              obtain ⟨rfl, hb2⟩ := hcut
              have hb3 : Below w1.heap.size w1 wc := hb1.trans (hb2.mono hb1.size)
              cases hpv : prevBadD (if k = 0 then none else dl[k - 1]?) a with
              | true =>
                have hst' := hf2.out
                rw [hpv] at hst'
                have hf3 := Lib.hid hst'
                clear hst'
                go_wp2
                go_ret
                exact ⟨ret_int (by rw [hfin.out, hf3.out]; rfl), hbw.trans (hb3.mono hbw.size)⟩
              | false =>
                have hst' := hf2.out
                rw [hpv] at hst'
                simp only [Bool.false_eq_true, if_false] at hst'
                have hf3 := Lib.hid hst'
                clear hst'
                go_wp2
                go_roundw
                case rel => exact ⟨k + 1, by omega, by go_num, rfl, hb3, Lib.hid (by rw [hf3.out, if_neg (by omega), show k + 1 - 1 = k from rfl, Ha.out])⟩
                case measure => simp [intOf]; omega
      · have hfin2 := Lib.hid hfin.out
        go_wp2
        go_ret
        exact ⟨ret_int (by rw [hfin2.out, hst.out, List.drop_of_length_le (by rw [← HD.out]; omega)]; simp [dlvsGo]), hb0⟩

end Go.Proofs.YticnppnejafhdaaGreatDoor
/- Laws: append where there is room, clear, in a row of one's own. Generic: no program's numbers. -/
namespace Go.Proofs.YticnppnejafhdaaGreatDoor
open Go.RowKit

theorem heap_lt {w : World} {g : Nat} {o : Obj} (h : w.heap[g]? = some o) : g < w.heap.size := by
  rcases Nat.lt_or_ge g w.heap.size with h' | h'
  · exact h'
  · rw [Array.getElem?_eq_none h'] at h; cases h
theorem own_base {w : World} {b b' : Nat} {e : TypeId} {s : Nat} {v : Value} {n : Nat} {x : List Value} (h : w.ownsRow b e s v n x) (hb : b' ≤ b) : w.ownsRow b' e s v n x := by
  obtain ⟨h1, h2⟩ := h
  refine ⟨h1, ?_⟩
  rcases h2 with h2 | ⟨g, cap, cur, e1, e2, e3⟩
  · exact Or.inl h2
  · exact Or.inr ⟨g, cap, cur, e1, Nat.le_trans hb e2, e3⟩
theorem own_below {w w' : World} {b B : Nat} {e : TypeId} {s : Nat} {v : Value} {n : Nat} {x : List Value} (h : w.ownsRow b e s v n x) (hb : Below B w w') (hB : w.heap.size ≤ B) : w'.ownsRow b e s v n x := by
  obtain ⟨h1, h2⟩ := h
  refine ⟨h1, ?_⟩
  rcases h2 with h2 | ⟨g, cap, cur, e1, e2, e3, e4⟩
  · exact Or.inl h2
  · exact Or.inr ⟨g, cap, cur, e1, e2, (hb.block g (Nat.lt_of_lt_of_le (heap_lt e3) hB)).trans e3, e4⟩
section
variable {P : Program} (w : World)
end

end Go.Proofs.YticnppnejafhdaaGreatDoor
/- Walks: when frames are under way. -/
namespace Go.Proofs.YticnppnejafhdaaGreatDoor
open Go.RowKit
open Nd Rc Mo

theorem Lies.later {w w' : World} {sz : Nat} {A : Option Addr} {xs : List (List Value)} (h : Lies w w.heap.size sz A xs) (hb : Below w.heap.size w w') : Lies w' w'.heap.size sz A xs := (h.below hb).more hb.size
theorem own_form2 {w : World} {b : Nat} {e : TypeId} {s : Nat} {v : Value} {n : Nat} {x : List Value} (h : w.ownsRow b e s v n x) : ∃ A c, v = .slice A n c := by
  rcases h.2 with ⟨rfl, rfl⟩ | ⟨g, cap, cur, rfl, _⟩
  · exact ⟨_, _, rfl⟩
  · exact ⟨_, _, rfl⟩
theorem own_type2 {w : World} {base : Nat} {e t : TypeId} {size : Nat} {v : Value} {n : Nat} {xs cs : List Value} {g : Nat} (h : w.ownsRow base e size v n xs) (hg : some g = v.ownBlock) (hb : Blk w g t cs) : t = e := by
  rcases h.2 with ⟨rfl, _⟩ | ⟨g', cap, cur, rfl, _, e3, _⟩
  · cases hg
  · simp only [Value.ownBlock, Option.some.injEq] at hg
    subst hg
    unfold Blk at hb
    rw [e3] at hb
    injection hb with hb
    injection hb with _ hb
    exact hb.symm
theorem Blk.news2 {w : World} {g : Nat} {t : TypeId} {cs : List Value} (h : Blk w g t cs) : ∀ j u, cs[j]? = some u → w.cell? ((⟨g, 0, none⟩ : Addr).add j) = some u := fun j u hu => by rw [add_off]; exact (h.row j).trans hu

set_option maxHeartbeats 1000000 in
theorem release_any (f : Fl) (n : Int) (hf : fault f = 0) (h0 : 0 ≤ n) (h1 : n ≤ 1000000) (w : World) :
    Calls Tryz.prog 106 #[.agg #[.int .i64 f.id, .int .i64 f.fr, .int .i64 f.tn, .int .i64 f.pe, .int .i64 f.ph, .int .i64 f.dl], .int .i64 n] w fun e w' => e = .returned (.tuple #[.int .i64 (rel f n), .int .i64 0]) ∧ Below w.heap.size w w' := by
  have con := fun W => alone_any f W
  rw [hf] at con
  obtain ⟨_, _, _, hp, hq, hdl, _⟩ := fault_zero hf
  have hm0 : 0 ≤ n * f.pe := Int.mul_nonneg h0 (by omega)
  have hm1 : n * f.pe ≤ 1000000 * f.pe := Int.mul_le_mul_of_nonneg_right h1 (by omega)
  unfold rel
  obtain ⟨m, hmm⟩ : ∃ m, m = n * f.pe := ⟨_, rfl⟩
  have hw1 : IntKind.i64.wrap (n * f.pe) = m := by rw [← hmm, IntKind.wrap_i64]; omega
  rw [← hmm] at hm0 hm1 ⊢
  have hw2 : IntKind.i64.wrap (f.ph + m) = f.ph + m := by rw [IntKind.wrap_i64]; omega
  have d0 : decide (n < 0) = false := decide_eq_false (by omega)
  have d1 : decide (1099511627776 < n) = false := decide_eq_false (by omega)
  have d2 : decide (1099511627776 < f.ph + m) = false := decide_eq_false (by omega)
  clear hf
  obtain ⟨id, fr, tn, pe, ph, dl⟩ := f
  dsimp only at *
  have HMM := Lib.hid hmm.symm
  have Con := Lib.hid con
  clear con hmm
  go_enter Tryz.func106, Tryz.ntmps106
  go_wp2_with (first | (go_at_call 152; (with_reducible refine (Con.out _).mono ?_); rintro e w2 ⟨rfl, hb2⟩; have r2 := (Row.new w [.int .i64 id, .int .i64 fr, .int .i64 tn, .int .i64 pe, .int .i64 ph, .int .i64 dl] 28).below hb2 (by simp); unfold Row at r2) | fail)
  go_ret2
  exact ⟨by first | rfl | (rw [HMM.out]; done) | simp [HMM.out], ((Below.refl _ _).alloc (Nat.le_refl _) _).trans (hb2.mono (by simp))⟩

set_option maxHeartbeats 1000000 in
theorem Window_any (f : Fl) (n : Int) (hf : fault f = 0) (h0 : 0 ≤ n) (h1 : n ≤ 1000000) (w : World) :
    Calls Tryz.prog 70 #[.agg #[.int .i64 f.id, .int .i64 f.fr, .int .i64 f.tn, .int .i64 f.pe, .int .i64 f.ph, .int .i64 f.dl], .int .i64 n] w fun e w' => e = .returned (.tuple #[.int .i64 (rel f n), .int .i64 (rel f n + f.pe - 1), .int .i64 0]) ∧ Below w.heap.size w w' := by
  have con := fun W => release_any f n hf h0 h1 W
  obtain ⟨_, _, _, hp, hq, hdl, _⟩ := fault_zero hf
  have hm0 : 0 ≤ n * f.pe := Int.mul_nonneg h0 (by omega)
  have hm1 : n * f.pe ≤ 1000000 * f.pe := Int.mul_le_mul_of_nonneg_right h1 (by omega)
  unfold rel at con ⊢
  generalize hmm : n * f.pe = m at *
  clear hmm
  clear hf
  obtain ⟨id, fr, tn, pe, ph, dl⟩ := f
  dsimp only at *
  have Con := Lib.hid con
  clear con
  have hw1 : IntKind.i64.wrap (ph + m + pe - 1) = ph + m + pe - 1 := by rw [IntKind.wrap_i64]; omega
  have hw2 : IntKind.i64.wrap (ph + m + pe) = ph + m + pe := by rw [IntKind.wrap_i64]; omega
  go_enter Tryz.func70, Tryz.ntmps70
  go_wp2_with (first | (go_at_call 106; (with_reducible refine (Con.out _).mono ?_); rintro e w2 ⟨rfl, hb2⟩; have r2 := (Row.new w [.int .i64 id, .int .i64 fr, .int .i64 tn, .int .i64 pe, .int .i64 ph, .int .i64 dl] 28).below hb2 (by simp); unfold Row at r2) | fail)
  go_quiet (fail)
  go_wp2_with fail
  go_ret3
  exact ⟨rfl, below_drewN (((Below.refl _ _).alloc (Nat.le_refl _) _).trans (hb2.mono (by simp))) _⟩

set_option maxHeartbeats 1000000 in
theorem Due_any (f : Fl) (n : Int) (hf : fault f = 0) (h0 : 0 ≤ n) (h1 : n ≤ 1000000) (w : World) :
    Calls Tryz.prog 71 #[.agg #[.int .i64 f.id, .int .i64 f.fr, .int .i64 f.tn, .int .i64 f.pe, .int .i64 f.ph, .int .i64 f.dl], .int .i64 n] w fun e w' => e = .returned (.tuple #[.int .i64 (rel f n + f.dl - 1), .int .i64 0]) ∧ Below w.heap.size w w' := by
  have con := fun W => release_any f n hf h0 h1 W
  obtain ⟨_, _, _, hp, hq, hdl, _⟩ := fault_zero hf
  have hm0 : 0 ≤ n * f.pe := Int.mul_nonneg h0 (by omega)
  have hm1 : n * f.pe ≤ 1000000 * f.pe := Int.mul_le_mul_of_nonneg_right h1 (by omega)
  unfold rel at con ⊢
  generalize hmm : n * f.pe = m at *
  clear hmm
  clear hf
  obtain ⟨id, fr, tn, pe, ph, dl⟩ := f
  dsimp only at *
  have Con := Lib.hid con
  clear con
  have hw1 : IntKind.i64.wrap (ph + m + dl - 1) = ph + m + dl - 1 := by rw [IntKind.wrap_i64]; omega
  have hw2 : IntKind.i64.wrap (ph + m + dl) = ph + m + dl := by rw [IntKind.wrap_i64]; omega
  go_enter Tryz.func71, Tryz.ntmps71
  go_wp2_with (first | (go_at_call 106; (with_reducible refine (Con.out _).mono ?_); rintro e w2 ⟨rfl, hb2⟩; have r2 := (Row.new w [.int .i64 id, .int .i64 fr, .int .i64 tn, .int .i64 pe, .int .i64 ph, .int .i64 dl] 28).below hb2 (by simp); unfold Row at r2) | fail)
  go_ret2
  exact ⟨rfl, ((Below.refl _ _).alloc (Nat.le_refl _) _).trans (hb2.mono (by simp))⟩

set_option maxHeartbeats 1000000 in
theorem complete_any (f : Fl) (slots : Int) (va vd : Value) (hf : fault f = 0) (h0 : 0 ≤ slots) (h1 : slots ≤ 4096) (_ha : va.oneCell' = true) (_hd : vd.oneCell' = true) (w : World) :
    Calls Tryz.prog 104 #[.agg #[.int .i64 f.id, .int .i64 f.fr, .int .i64 f.tn, .int .i64 f.pe, .int .i64 f.ph, .int .i64 f.dl], .agg #[.int .i64 slots, va, vd]] w fun e w' => e = .returned (.int .i64 (complete f slots)) ∧ Below w.heap.size w w' := by
  obtain ⟨_, _, _, hp, hq, hdl, _⟩ := fault_zero hf
  obtain ⟨T, hT⟩ : ∃ T, T = complete f slots := ⟨_, rfl⟩
  rw [← hT]
  unfold complete at hT
  clear hf
  obtain ⟨id, fr, tn, pe, ph, dl⟩ := f
  dsimp only at *
  have hw1 : IntKind.i64.wrap (slots - ph) = slots - ph := by rw [IntKind.wrap_i64]; omega
  have hw2 : IntKind.i64.wrap (slots - ph - dl) = slots - ph - dl := by rw [IntKind.wrap_i64]; omega
  have hpe : pe ≠ 0 := by omega
  by_cases hc : 0 ≤ slots - ph - dl
  · rw [if_pos hc] at hT
    have hdv : (slots - ph - dl).tdiv pe = (slots - ph - dl) / pe := Int.tdiv_eq_ediv_of_nonneg hc
    have hd0 : 0 ≤ (slots - ph - dl) / pe := Int.ediv_nonneg hc (by omega)
    have hd1 : (slots - ph - dl) / pe ≤ slots - ph - dl := Int.ediv_le_self _ hc
    have hw3 : IntKind.i64.wrap ((slots - ph - dl) / pe) = (slots - ph - dl) / pe := by rw [IntKind.wrap_i64]; omega
    have hw4 : IntKind.i64.wrap ((slots - ph - dl) / pe + 1) = (slots - ph - dl) / pe + 1 := by rw [IntKind.wrap_i64]; omega
    have dc : decide (0 ≤ slots - ph - dl) = true := decide_eq_true hc
    have HT := Lib.hid hT
    clear hT
    generalize (slots - ph - dl) / pe = Q at *
    go_enter Tryz.func104, Tryz.ntmps104
    go_wp2_with fail
    go_ret
    exact ⟨ret_int (by rw [HT.out]), by repeat (first | exact Below.refl _ _ | refine Below.alloc ?_ (by simp) _)⟩
  · rw [if_neg hc] at hT
    have dc : decide (0 ≤ slots - ph - dl) = false := decide_eq_false hc
    have HT := Lib.hid hT
    clear hT
    go_enter Tryz.func104, Tryz.ntmps104
    go_wp2_with fail
    go_ret
    exact ⟨ret_int (by rw [HT.out]), by repeat (first | exact Below.refl _ _ | refine Below.alloc ?_ (by simp) _)⟩
end Go.Proofs.YticnppnejafhdaaGreatDoor
/- Maps of frames: to each flow and frame the slots of its deliveries; a map that the call makes. -/
namespace Go.Proofs.YticnppnejafhdaaGreatDoor
open Go.RowKit Go.WideMaps Go.Maps Go.ChangeShapes
open Go.Maps (Keyed)

theorem Tryz.kLaid : laidOutB Tryz.prog = true := by kernel_rfl
theorem Tryz.kRow : (150 : TypeId) < Tryz.prog.types.size := of_decide_eq_true (by kernel_rfl)
theorem Tryz.kKeyed : Keyed Tryz.prog 150 := Keyed.of_law (deep_law_laid Tryz.kLaid (m := 2) (by omega) Tryz.kRow (by kernel_rfl) (by rw [Tryz.underlying150]))
theorem pos_succ {a n : Nat} (h : a < n) : ∃ m, n = m + 1 := ⟨n - 1, by omega⟩
theorem Tryz.kTypes : ∃ m, Tryz.prog.types.size = m + 1 := pos_succ Tryz.kRow
theorem Tryz.kType : Tryz.prog.keyType 150 = true := by kernel_rfl
theorem Tryz.kCells : Tryz.prog.cellsOf 150 = 2 := by kernel_rfl
theorem Tryz.kOne : Tryz.prog.cellsOf 3 = 1 := by kernel_rfl
theorem Tryz.sZero (w : World) : (zeroValue 24).run Tryz.prog w = .ok (.slice none 0 0) w := by kernel_rfl

/-- A number that an int holds. -/
def Num64 (a : Int) : Prop := (Lit.int .i64 a).wf = true
theorem num64_of {a : Int} (h : -9223372036854775808 ≤ a ∧ a ≤ 9223372036854775807) : Num64 a := by
  have h1 : IntKind.i64.min = -9223372036854775808 := by decide
  have h2 : IntKind.i64.max = 9223372036854775807 := by decide
  simp only [Num64, Lit.wf, Bool.and_eq_true, decide_eq_true_eq, h1, h2]
  exact h
def frKey (a b : Int) : Lit := .string (keyBytes [.int .i64 a, .int .i64 b])
theorem keyOf_fr {a b : Int} (ha : Num64 a) (hb : Num64 b) : keyOf Tryz.prog 150 (.agg #[.int .i64 a, .int .i64 b]) = some (frKey a b) := by
  obtain ⟨m, hm⟩ := Tryz.kTypes
  unfold keyOf
  simp only [Tryz.underlying150]
  rw [if_pos (by simp [Tryz.kType, Value.formed, Tryz.underlying150, Tryz.kCells]), hm]
  unfold Program.keyLits
  simp only [Tryz.underlying150, Value.cells, Tryz.kCells]
  have h64a : (Lit.int .i64 a).wf = true := ha
  have h64b : (Lit.int .i64 b).wf = true := hb
  cases m with
  | zero => exact absurd hm (by intro h; have := Tryz.kRow; rw [h] at this; revert this; decide)
  | succ m => simp [Program.keyLits, Tryz.underlying3, Tryz.kOne, h64a, h64b, frKey]
theorem frKey_inj {a b c d : Int} (ha : Num64 a) (hb : Num64 b) (hc : Num64 c) (hd : Num64 d) (h : frKey a b = frKey c d) : a = c ∧ b = d := by
  have h1 := keyOf_fr ha hb
  have h2 := keyOf_fr hc hd
  rw [← h] at h2
  have := Tryz.kKeyed.inj h1 h2
  simpa using this

/-- How a list of numbers reads. -/
def gd (zs : List Int) : DataW Unit := if zs = [] then .nil else .slice (lits .i64 zs) []
/-- Block b is a map that holds the list G a c at the frame c of flow a. -/
def OwnsGr (w : World) (base b n : Nat) (G : Int → Int → List Int) : Prop :=
  ∃ D : DataW Unit, w.ownsGroups Tryz.prog 150 base 3 .i64 b n D ∧ Go.Maps.IsMap D ∧ ∀ a c, Num64 a → Num64 c → D.atKey (frKey a c) .nil = gd (G a c)
theorem OwnsGr.made (w : World) : OwnsGr (w.alloc (.map #[] 0)) (w.heap.size + 1) w.heap.size 0 (fun _ _ => []) :=
  ⟨.map [], World.ownsGroups_made w _ _ _ _, Go.Maps.isMap_empty, fun a c _ _ => by simp [DataW.atKey, gd]⟩
theorem OwnsGr.below {w w' : World} {base b n : Nat} {G : Int → Int → List Int} (h : OwnsGr w base b n G) (hb : Below w.heap.size w w') : OwnsGr w' base b n G := by
  obtain ⟨D, h1, h2⟩ := h
  exact ⟨D, h1.kept (row := none) ⟨hb.os, hb.tape, hb.output, hb.size, fun i hi _ => hb.block i hi⟩ (by simp) (fun es clock _ x _ => by cases x.val.ownBlock <;> simp), h2⟩
theorem lits_inj {zs ys : List Int} (h : lits .i64 zs = (lits .i64 ys : List (DataW Unit))) : zs = ys := by
  unfold lits at h
  exact (List.map_inj_right (fun a b hab => by cases hab; rfl)).1 h
theorem gd_row {v : Value} {zs ys : List Int} {w : World} {base : Nat} {e : TypeId} (ho : w.ownsInts base e .i64 v zs) (h : rowDatum .i64 v zs = gd ys) : zs = ys := by
  rcases ho.1.2 with ⟨rfl, h0⟩ | ⟨g, cap, cur, rfl, _⟩
  · have hz : zs = [] := List.eq_nil_of_length_eq_zero h0
    unfold gd at h
    split at h
    · rw [hz]; exact Eq.symm ‹_›
    · simp [rowDatum] at h
  · unfold gd at h
    split at h
    · simp [rowDatum] at h
    · simp only [rowDatum, DataW.slice.injEq, and_true] at h
      exact lits_inj h
theorem OwnsGr.look {w : World} {base b n : Nat} {G : Int → Int → List Int} (h : OwnsGr w base b n G) (hn : n < maxLen) {a c : Int} (ha : Num64 a) (hc : Num64 c) :
    ∃ v, (Instr.lookup 145 (.map (some b)) (.agg #[.int .i64 a, .int .i64 c]) false).run Tryz.prog w = .ok v w ∧ w.ownsInts base 3 .i64 v (G a c) := by
  obtain ⟨D, h1, _, h3⟩ := h
  obtain ⟨v, zs, hrun, hat, ho, _, _⟩ := h1.at Tryz.kKeyed Tryz.underlying145 (Tryz.sZero w) hn (keyOf_fr ha hc)
  rw [h3 a c ha hc] at hat
  have := gd_row ho hat.symm
  subst this
  exact ⟨v, hrun, ho⟩
theorem flatI_map (l : List Int) : flatI l = l.map (Value.int .i64) := by
  unfold flatI
  induction l with
  | nil => rfl
  | cons x l ih => simp [irow, ih]
end Go.Proofs.YticnppnejafhdaaGreatDoor
/- 'm[k] = append(m[k], v)' on a map of frames: the entry, the append, the store. -/
namespace Go.Proofs.YticnppnejafhdaaGreatDoor
open Go.RowKit Go.WideMaps Go.Maps Go.WideElems Go.ChangeMaps
open Go.Maps (Keyed)

theorem Tryz.kLaw : KeyLaw Tryz.prog 150 := deep_law_laid Tryz.kLaid (m := 2) (by omega) Tryz.kRow (by kernel_rfl) (by rw [Tryz.underlying150])

section
variable {H : Type} {P : Program} {w w' : World} {t k e : TypeId} {R : Value → Option (DataW H × List MemPlace)} {b : Nat} {es : Array MapEntry} {clock : Nat}
theorem setBlock_inj {o o' : Obj} (hb : b < w.heap.size) (h : setBlock w b o = setBlock w b o') : o = o' := by
  have h1 := congrArg (fun w : World => w.heap[b]?) h
  simpa [setBlock, hb] using h1
/-- A store into a map hangs on the map's block alone. -/
theorem update_same (K : KeyLaw P k) (ht : P.underlying t = some (.map k e)) (hb : w.heap[b]? = some (.map es clock)) (hb' : w'.heap[b]? = some (.map es clock)) (F : Fit P k R es clock)
    {key val : Value} {kl : Lit} (hkey : keyOf P k key = some kl) {o : Obj} (h : (Instr.mapUpdate t (.map (some b)) key val).run P w = .ok () (setBlock w b o)) :
    (Instr.mapUpdate t (.map (some b)) key val).run P w' = .ok () (setBlock w' b o) := by
  obtain ⟨_, _, s3⟩ := F.stamped
  have hlt : b < w.heap.size := (Array.getElem?_eq_some_iff.1 hb).1
  have none_ : ∀ (u : World), u.heap[b]? = some (.map es clock) → (Instr.findKey k key es.toList).run P u = .ok none u → (Instr.mapUpdate t (.map (some b)) key val).run P u = .ok () (setBlock u b (.map (es.push ⟨key, val, clock⟩) (clock + 1))) := fun u hu h1 => by
    simp [Instr.mapUpdate, run_underlying ht, MapKept.run_getObj_map hu, K.check u false hkey, h1, MapKept.run_setObj_map _ hu, Result.andThen, setBlock]
  have some_ : ∀ (u : World) (j : Nat) (e0 : MapEntry), u.heap[b]? = some (.map es clock) → (Instr.findKey k key es.toList).run P u = .ok (some (j, e0.val)) u → es.toList[j]? = some e0 → e0.key = key → (Instr.mapUpdate t (.map (some b)) key val).run P u = .ok () (setBlock u b (.map (es.modify j (fun e' => { e' with key := key, val := val })) clock)) := fun u j e0 hu h1 h2 h3 => by
    have hj : es[j]? = some e0 := by simpa using h2
    simp [Instr.mapUpdate, run_underlying ht, MapKept.run_getObj_map hu, K.check u false hkey, h1, hj, h3, K.stays u hkey, MapKept.run_setObj_map _ hu, Result.andThen, setBlock]
  have out : ∀ {o' : Obj}, (Instr.mapUpdate t (.map (some b)) key val).run P w = .ok () (setBlock w b o') → o' = o := fun h' => by
    rw [h] at h'
    injection h' with _ h'
    exact (setBlock_inj hlt h').symm
  rcases K.find w hkey es.toList F.keys with ⟨h1, h2⟩ | ⟨j, e0, h1, h2, h3⟩
  · rcases K.find w' hkey es.toList F.keys with ⟨h1', _⟩ | ⟨j', e0', _, h2', h3'⟩
    · rw [none_ w' hb' h1', out (none_ w hb h1)]
    · exact absurd h3' (h2 e0' (List.mem_of_getElem? h2'))
  · rcases K.find w' hkey es.toList F.keys with ⟨_, h2'⟩ | ⟨j', e0', h1', h2', h3'⟩
    · exact absurd h3 (h2' e0 (List.mem_of_getElem? h2))
    · have hjj : j = j' := by
        obtain ⟨a1, a2⟩ := List.getElem?_eq_some_iff.1 h2
        obtain ⟨b1, b2⟩ := List.getElem?_eq_some_iff.1 h2'
        have hnd := List.pairwise_iff_getElem.1 (List.nodup_iff_pairwise_ne.1 s3)
        rcases Nat.lt_trichotomy j j' with hlt | heq | hgt
        · exact (hnd j j' (by simpa using a1) (by simpa using b1) hlt (by simp [a2, b2, h3, h3'])).elim
        · exact heq
        · exact (hnd j' j (by simpa using b1) (by simpa using a1) hgt (by simp [a2, b2, h3, h3'])).elim
      subst hjj
      rw [some_ w' j e0' hb' h1' h2' h3', out (some_ w j e0 hb h1 h2 h3)]
end

/-- The list at one frame is turned. -/
def updG (G : Int → Int → List Int) (a c : Int) (zs : List Int) : Int → Int → List Int := fun x y => if x = a ∧ y = c then zs else G x y
theorem OwnsGr.entry {w : World} {base b n : Nat} {G : Int → Int → List Int} (h : OwnsGr w base b n G) (hn : n < maxLen) {a c : Int} (ha : Num64 a) (hc : Num64 c) :
    ∃ v w1 st, (Instr.mapEntry 145 (.map (some b)) (.agg #[.int .i64 a, .int .i64 c])).run Tryz.prog w = .ok (.tuple #[v, goInt (st : Nat)]) w1 ∧ w.grownBy w1 (some b) ∧ w1.heap.size = w.heap.size ∧ w1.ownsInts base 3 .i64 v (G a c) ∧ (G a c).length ≤ n ∧
      ∀ (w2 : World) (v' : Value) (zs' : List Int), w1.grownBy w2 v.ownBlock → w2.ownsInts base 3 .i64 v' zs' → zs' ≠ [] → zs'.length ≤ n + 1 → (v'.ownBlock = v.ownBlock ∨ ∃ g, v'.ownBlock = some g ∧ w.heap.size ≤ g) →
        ∃ w3, (Instr.entryStore 145 (.map (some b)) (goInt (st : Nat)) v').run Tryz.prog w2 = .ok () w3 ∧ OwnsGr w3 base b (n + 1) (updG G a c zs') ∧ w2.grownBy w3 (some b) := by
  obtain ⟨D, h1, hm, h3⟩ := h
  have hkey := keyOf_fr ha hc
  obtain ⟨v, zs, hlook, hat, hoi, hzl, hback⟩ := h1.at Tryz.kKeyed Tryz.underlying145 (Tryz.sZero w) hn hkey
  rw [h3 a c ha hc] at hat
  have hzs := gd_row hoi hat.symm
  subst hzs
  obtain ⟨es, clock, hb, F, hs, hD, hbb, hlen, hap⟩ := h1
  have hlt : b < w.heap.size := (Array.getElem?_eq_some_iff.1 hb).1
  obtain ⟨v0, st, es1, clock1, hent, hv0, hst⟩ := entry_then_store Tryz.kLaw Tryz.underlying145 (fun u => Tryz.sZero u) hb F hkey
  have hbw : ∀ (u : World) (o : Obj), b < u.heap.size → u.grownBy (setBlock u b o) (some b) := fun u o hu => ⟨rfl, rfl, rfl, by simp [setBlock], fun i _ hi => by
    have : b ≠ i := fun e => hi (by rw [e])
    simp [setBlock, this]⟩
  -- the value that the entry hands over is the look-up's
  have hv : v0 = v := by
    rcases Maps.fit_look false Tryz.kKeyed Tryz.underlying145 (Tryz.sZero w) hb F hkey with ⟨hrun, hno, _⟩ | ⟨e0, y, hm0, hk0, hrun, _, _, _⟩
    · have e1 : v = .slice none 0 0 := by rw [hlook] at hrun; injection hrun
      rcases hv0 with ⟨x, hx, hxk, _⟩ | ⟨_, hz⟩
      · exact absurd hxk (hno x hx)
      · rw [hz, e1]
    · have e1 : v = e0.val := by rw [hlook] at hrun; injection hrun
      rcases hv0 with ⟨x, hx, hxk, hxv⟩ | ⟨hno, _⟩
      · obtain ⟨_, _, s3⟩ := F.stamped
        obtain ⟨i, hi, hxi⟩ := List.getElem_of_mem hx
        obtain ⟨j, hj, hej⟩ := List.getElem_of_mem hm0
        have hnd := List.pairwise_iff_getElem.1 (List.nodup_iff_pairwise_ne.1 s3)
        have : i = j := by
          rcases Nat.lt_trichotomy i j with hlt | heq | hgt
          · exact (hnd i j (by simpa using hi) (by simpa using hj) hlt (by simp [hxi, hej, hxk, hk0])).elim
          · exact heq
          · exact (hnd j i (by simpa using hj) (by simpa using hi) hgt (by simp [hxi, hej, hxk, hk0])).elim
        subst this
        rw [hxv, e1, ← hxi, hej]
      · exact absurd hk0 (hno e0 hm0)
  subst hv
  have hvb : v0.ownBlock ≠ some b := fun e => by
    have := (hoi.1.lt b e).1
    omega
  refine ⟨v0, _, st, hent, hbw w _ hlt, by simp [setBlock], hoi.kept (hbw w _ hlt) (.inr hvb), hzl, fun w2 v' zs' hg ho' hne hl' hloc => ?_⟩
  have hw2b : w2.heap[b]? = some (.map es1 clock1) := by
    rw [hg.block b (by simp [setBlock]; exact hlt) (fun e => hvb e.symm)]
    simp [setBlock, hlt]
  have hlt2 : b < w2.heap.size := (Array.getElem?_eq_some_iff.1 hw2b).1
  obtain ⟨es', clock', hstore, hupd⟩ := hst w2 v' hw2b
  -- the world w2 with the old map in it
  obtain ⟨u, hu⟩ : ∃ u, u = setBlock w2 b (.map es clock) := ⟨_, rfl⟩
  have hub : u.heap[b]? = some (.map es clock) := by rw [hu]; simp [setBlock, hlt2]
  have hwu : w.grownBy u v0.ownBlock := by
    refine ⟨by rw [hu]; exact hg.os, by rw [hu]; exact hg.tape, by rw [hu]; exact hg.output, by rw [hu]; have := hg.size; simpa [setBlock] using this, fun i hi hio => ?_⟩
    by_cases hib : i = b
    · subst hib; rw [hub, hb]
    · have h5 : u.heap[i]? = w2.heap[i]? := by rw [hu]; simp [setBlock, Ne.symm hib]
      rw [h5, hg.block i (by simpa [setBlock] using hi) hio]
      simp [setBlock, Ne.symm hib]
  have huo : u.ownsInts base 3 .i64 v' zs' := by
    rw [hu]
    refine ho'.kept (hbw w2 _ hlt2) ?_
    cases hvo : v'.ownBlock with
    | none => exact .inl rfl
    | some g =>
      refine .inr (fun e => ?_)
      injection e with e
      have := (ho'.1.lt g hvo).1
      omega
  obtain ⟨u2, hrun2, hown2, hgr2⟩ := hback u v' zs' hwu huo hl' hloc
  have hupd2 := update_same Tryz.kLaw Tryz.underlying145 hb hub F hkey hupd
  rw [hrun2] at hupd2
  injection hupd2 with _ hupd2
  have hfin : u2 = setBlock w2 b (.map es' clock') := by rw [hupd2, hu]; simp [setBlock]
  rw [hfin] at hown2
  refine ⟨_, hstore, ⟨_, hown2, hm.put _ _, fun x y hx hy => ?_⟩, hbw w2 _ hlt2⟩
  have hgd : rowDatum (H := Unit) .i64 v' zs' = gd zs' := by
    unfold gd
    rw [if_neg hne]
    rcases ho'.1.2 with ⟨_, h0⟩ | ⟨g, cap, cur, rfl, _⟩
    · exact absurd (List.eq_nil_of_length_eq_zero h0) hne
    · rfl
  by_cases e : frKey x y = frKey a c
  · obtain ⟨e1, e2⟩ := frKey_inj hx hy ha hc e
    subst e1 e2
    rw [Go.Maps.atKey_put_same hm (by trivial)]
    simp [updG, hgd]
  · rw [Go.Maps.atKey_put_other e, h3 x y hx hy]
    have hne : ¬ (x = a ∧ y = c) := fun ⟨e1, e2⟩ => e (by rw [e1, e2])
    simp [updG, hne]
end Go.Proofs.YticnppnejafhdaaGreatDoor
/- Walks: the flows and the record are right; where a frame arrived; the slots of deliveries by frame. -/
namespace Go.Proofs.YticnppnejafhdaaGreatDoor
open Go.RowKit
open Nd Rc Mo

theorem Tryz.infoInt : (Tryz.prog.info? 3).map (fun i => (i.zero, i.size, i.bytes)) = some (some (.int .i64 0), 1, 8) := by kernel_rfl

set_option maxHeartbeats 1000000 in
theorem right_any (fs : List Fl) (r : Rec) (F A D : Option Addr) (cf ca cd : Nat) (w : World) (hF : Lies w w.heap.size 6 F (fs.map Fl.row)) (hf : fs.length ≤ 1000000) (hA : LiesA w w.heap.size A r.al) (hD : LiesD w w.heap.size D r.dl) (hla : r.al.length ≤ 1000000) (hld : r.dl.length ≤ 1000000) :
    Calls Tryz.prog 102 #[.slice F fs.length cf, .agg #[.int .i64 r.slots, .slice A r.al.length ca, .slice D r.dl.length cd]] w fun e w' => e = .returned (.bool (right fs r)) ∧ Below w.heap.size w w' := by
  obtain ⟨slots, al, dl⟩ := r
  dsimp only at *
  obtain ⟨na, hna⟩ : ∃ n, n = al.length := ⟨_, rfl⟩
  obtain ⟨nd, hnd⟩ : ∃ n, n = dl.length := ⟨_, rfl⟩
  obtain ⟨W1, hW1⟩ : ∃ W1, W1 = w.alloc (.cells #[.int .i64 slots, .slice A na ca, .slice D nd cd] 35) := ⟨_, rfl⟩
  have hb1 : Below w.heap.size w W1 := by rw [hW1]; exact (Below.refl _ _).alloc (Nat.le_refl _) _
  have bR : Blk W1 w.heap.size 35 [.int .i64 slots, .slice A na ca, .slice D nd cd] := by rw [hW1]; exact Blk.new2 _ [.int .i64 slots, .slice A na ca, .slice D nd cd] rfl
  have Con := Lib.hid (fCheck_any fs F cf W1 (Lies.later hF hb1) hf)
  have Con2 := Lib.hid (fun W (h' : Below W1.heap.size W1 W) => check_any ⟨slots, al, dl⟩ A D ca cd W ((hA.below hb1).more hb1.size |>.below h' |>.more h'.size) ((hD.below hb1).more hb1.size |>.below h' |>.more h'.size) (by dsimp only; omega) (by dsimp only; omega))
  have hT : right fs ⟨slots, al, dl⟩ = (decide ((chkF fs).2 = 0) && (checkE ⟨slots, al, dl⟩ == 0)) := by
    unfold right checkE
    cases good ⟨slots, al, dl⟩ <;> rfl
  rw [hT]
  generalize chkF fs = T at *
  generalize hE : checkE ⟨slots, al, dl⟩ = E at *
  dsimp only at Con2
  rw [← hna, ← hnd] at Con2 ⊢
  generalize fs.length = m at *
  have HR := Lib.hid (fun W (h' : Below W1.heap.size W1 W) => (bR.below h' bR.lt).row)
  have HB1 := Lib.hid hb1
  have hlt : w.heap.size < W1.heap.size := bR.lt
  clear hF hA hD hna hnd hT hE hb1 bR
  subst hW1
  go_enter Tryz.func102, Tryz.ntmps102
  go_wp2_with fail
  refine Con.out.mono ?_
  rintro e w2 ⟨rfl, hb2⟩
  have r2 := HR.out _ hb2
  unfold Row at r2
  have hfin := HB1.out.trans (hb2.mono HB1.out.size)
  have Con3 := Lib.hid (Con2.out _ hb2)
  by_cases hc : T.2 = 0
  · have e1 : (T.2 == 0) = true := by simpa using hc
    have e2 : decide (T.2 = 0) = true := decide_eq_true hc
    have E2 := Lib.hid e2
    clear hc e2 Con Con2 HR
    go_wp2_with (go_at_call 56; (with_reducible refine Con3.out.mono ?_); rintro e w3 ⟨rfl, hb3⟩)
    go_ret
    exact ⟨ret_bool (by rw [E2.out]; first | rfl | simp), hfin.trans (hb3.mono hfin.size)⟩
  · have e1 : (T.2 == 0) = false := by simpa using hc
    have e2 : decide (T.2 = 0) = false := decide_eq_false hc
    have E2 := Lib.hid e2
    clear hc e2 Con Con2 HR Con3
    go_wp2_with fail
    go_ret
    exact ⟨ret_bool (by rw [E2.out]; first | rfl | simp), hfin⟩

set_option maxRecDepth 100000 in
set_option maxHeartbeats 2000000 in
theorem arrival_any (f : Fl) (n : Int) (l : List Int) (A : Option Addr) (c : Nat) (w : World) (hf : fault f = 0) (h0 : 0 ≤ n) (h1 : n ≤ 1000000) (hA : LiesI w w.heap.size A l) (hl : l.length ≤ 1000000) :
    Calls Tryz.prog 105 #[.agg #[.int .i64 f.id, .int .i64 f.fr, .int .i64 f.tn, .int .i64 f.pe, .int .i64 f.ph, .int .i64 f.dl], .int .i64 n, .slice A l.length c] w fun e w' => e = .returned (.tuple #[.int .i64 (arrival f n l).1, .bool (arrival f n l).2]) ∧ Below w.heap.size w w' := by
  obtain ⟨W1, hW1⟩ : ∃ W1, W1 = w.alloc (.cells #[.int .i64 f.id, .int .i64 f.fr, .int .i64 f.tn, .int .i64 f.pe, .int .i64 f.ph, .int .i64 f.dl] 28) := ⟨_, rfl⟩
  have hb1 : Below w.heap.size w W1 := by rw [hW1]; exact (Below.refl _ _).alloc (Nat.le_refl _) _
  have bF : Blk W1 w.heap.size 28 [.int .i64 f.id, .int .i64 f.fr, .int .i64 f.tn, .int .i64 f.pe, .int .i64 f.ph, .int .i64 f.dl] := by rw [hW1]; exact Blk.new2 _ [.int .i64 f.id, .int .i64 f.fr, .int .i64 f.tn, .int .i64 f.pe, .int .i64 f.ph, .int .i64 f.dl] rfl
  have Con := Lib.hid (fun W => Window_any f n hf h0 h1 W)
  have Con2 := Lib.hid (fun W => Due_any f n hf h0 h1 W)
  obtain ⟨q, hq⟩ : ∃ q, q = l.length := ⟨_, rfl⟩
  obtain ⟨T, hT⟩ : ∃ T, T = arrival f n l := ⟨_, rfl⟩
  rw [← hT, ← hq]
  unfold arrival at hT
  have HA := Lib.hid (fun W (h' : Below W1.heap.size W1 W) => (hA.below hb1).more hb1.size |>.below h' |>.more h'.size)
  have HR := Lib.hid (fun W (h' : Below W1.heap.size W1 W) => (bF.below h' bF.lt).row)
  have HB1 := Lib.hid hb1
  obtain ⟨id, fr, tn, pe, ph, dl⟩ := f
  dsimp only at *
  generalize rel ⟨id, fr, tn, pe, ph, dl⟩ n = a at *
  generalize a + dl - 1 = due at *
  generalize a + pe - 1 = last at *
  have HT := Lib.hid hT
  have HQ := Lib.hid hq
  have hlq : q ≤ 1000000 := by rw [hq]; exact hl
  clear hT hA hf hb1 bF hq h0 h1 hl
  subst hW1
  go_enter Tryz.func105, Tryz.ntmps105
  go_wp2_with fail
  refine (Con.out _).mono ?_
  rintro e w2 ⟨rfl, hb2⟩
  have r2 := HR.out _ hb2
  unfold Row at r2
  go_wp2_with fail
  refine (Con2.out _).mono ?_
  rintro e w3 ⟨rfl, hb3⟩
  have hb23 := hb2.trans (hb3.mono hb2.size)
  have HF3 := Lib.hid (HB1.out.trans (hb23.mono HB1.out.size))
  have HA3 := Lib.hid (HA.out _ hb23)
  clear r2 Con Con2 HR HA
  go_wp2_with fail
  go_loopw [13, 31] (fun s13 i wr => ∃ (k : Nat) (late : Int), k ≤ q ∧ s13 = .int .i64 late ∧ i = .int .i64 k ∧ wr = w3 ∧ Hid (T = arrGo a due last (l.drop k) late)) (fun _ i _ => q - (intOf i).toNat)
  case atStart => exact ⟨0, -1, Nat.zero_le _, rfl, rfl, rfl, Lib.hid (by rw [HT.out]; rfl)⟩
  case round =>
    obtain ⟨k, late, hk, rfl, rfl, rfl, hst⟩ := hrel
    by_cases hlt : k < q
    · obtain ⟨s, hs⟩ := get_of_lt (l := l) (k := k) (by rw [← HQ.out]; exact hlt)
      obtain ⟨b, off, rfl, _, hcs⟩ := HA3.out.at_ hs
      have c0 := hcs k s hs
      have hst' : Hid (T = if a ≤ s ∧ s ≤ due then (s, true) else if due < s ∧ s ≤ last ∧ late < 0 then arrGo a due last (l.drop (k + 1)) s else arrGo a due last (l.drop (k + 1)) late) := Lib.hid (by rw [hst.out, drop_of_get hs]; rfl)
      clear hcs hs hst
      by_cases g1 : a ≤ s
      · have d1 : decide (a ≤ s) = true := decide_eq_true g1
        by_cases g2 : s ≤ due
        · have d2 : decide (s ≤ due) = true := decide_eq_true g2
          have hf := Lib.hid (show T = (s, true) by rw [hst'.out, if_pos (by omega)])
          clear hst' g1 g2
          go_wp2_with fail
          go_ret2
          exact ⟨by rw [hf.out]; rfl, HF3.out⟩
        · have d2 : decide (s ≤ due) = false := decide_eq_false g2
          by_cases g3 : due < s
          · have d3 : decide (due < s) = true := decide_eq_true g3
            by_cases g4 : s ≤ last
            · have d4 : decide (s ≤ last) = true := decide_eq_true g4
              by_cases g5 : late < 0
              · have d5 : decide (late < 0) = true := decide_eq_true g5
                have hf := Lib.hid (show T = arrGo a due last (l.drop (k + 1)) s by rw [hst'.out, if_neg (by omega), if_pos (by omega)])
                clear hst' g1 g2 g3 g4 g5
                go_wp2_with fail
                go_roundw
                case rel => exact ⟨k + 1, s, by omega, rfl, by go_num, by trivial, hf⟩
                case measure => simp [intOf]; omega
              · have d5 : decide (late < 0) = false := decide_eq_false g5
                have hf := Lib.hid (show T = arrGo a due last (l.drop (k + 1)) late by rw [hst'.out, if_neg (by omega), if_neg (by omega)])
                clear hst' g1 g2 g3 g4 g5
                go_wp2_with fail
                go_roundw
                case rel => exact ⟨k + 1, late, by omega, rfl, by go_num, by trivial, hf⟩
                case measure => simp [intOf]; omega
            · have d4 : decide (s ≤ last) = false := decide_eq_false g4
              have hf := Lib.hid (show T = arrGo a due last (l.drop (k + 1)) late by rw [hst'.out, if_neg (by omega), if_neg (by omega)])
              clear hst' g1 g2 g3 g4
              go_wp2_with fail
              go_roundw
              case rel => exact ⟨k + 1, late, by omega, rfl, by go_num, by trivial, hf⟩
              case measure => simp [intOf]; omega
          · have d3 : decide (due < s) = false := decide_eq_false g3
            have hf := Lib.hid (show T = arrGo a due last (l.drop (k + 1)) late by rw [hst'.out, if_neg (by omega), if_neg (by omega)])
            clear hst' g1 g2 g3
            go_wp2_with fail
            go_roundw
            case rel => exact ⟨k + 1, late, by omega, rfl, by go_num, by trivial, hf⟩
            case measure => simp [intOf]; omega
      · have d1 : decide (a ≤ s) = false := decide_eq_false g1
        by_cases g3 : due < s
        · have d3 : decide (due < s) = true := decide_eq_true g3
          by_cases g4 : s ≤ last
          · have d4 : decide (s ≤ last) = true := decide_eq_true g4
            by_cases g5 : late < 0
            · have d5 : decide (late < 0) = true := decide_eq_true g5
              have hf := Lib.hid (show T = arrGo a due last (l.drop (k + 1)) s by rw [hst'.out, if_neg (by omega), if_pos (by omega)])
              clear hst' g1 g3 g4 g5
              go_wp2_with fail
              go_roundw
              case rel => exact ⟨k + 1, s, by omega, rfl, by go_num, by trivial, hf⟩
              case measure => simp [intOf]; omega
            · have d5 : decide (late < 0) = false := decide_eq_false g5
              have hf := Lib.hid (show T = arrGo a due last (l.drop (k + 1)) late by rw [hst'.out, if_neg (by omega), if_neg (by omega)])
              clear hst' g1 g3 g4 g5
              go_wp2_with fail
              go_roundw
              case rel => exact ⟨k + 1, late, by omega, rfl, by go_num, by trivial, hf⟩
              case measure => simp [intOf]; omega
          · have d4 : decide (s ≤ last) = false := decide_eq_false g4
            have hf := Lib.hid (show T = arrGo a due last (l.drop (k + 1)) late by rw [hst'.out, if_neg (by omega), if_neg (by omega)])
            clear hst' g1 g3 g4
            go_wp2_with fail
            go_roundw
            case rel => exact ⟨k + 1, late, by omega, rfl, by go_num, by trivial, hf⟩
            case measure => simp [intOf]; omega
        · have d3 : decide (due < s) = false := decide_eq_false g3
          have hf := Lib.hid (show T = arrGo a due last (l.drop (k + 1)) late by rw [hst'.out, if_neg (by omega), if_neg (by omega)])
          clear hst' g1 g3
          go_wp2_with fail
          go_roundw
          case rel => exact ⟨k + 1, late, by omega, rfl, by go_num, by trivial, hf⟩
          case measure => simp [intOf]; omega
    · have hf : Hid (T = (late, false)) := Lib.hid (by rw [hst.out, List.drop_of_length_le (by rw [← HQ.out]; omega)]; rfl)
      go_wp2_with fail
      go_ret2
      exact ⟨by rw [hf.out]; rfl, HF3.out⟩

theorem slots_succ {dl : List Dlv} {k : Nat} {d : Dlv} (h : dl[k]? = some d) (x y : Int) : slotsOf (dl.take (k + 1)) x y = updG (slotsOf (dl.take k)) d.fl d.fr (slotsOf (dl.take k) d.fl d.fr ++ [d.sl]) x y := by
  obtain ⟨hk, rfl⟩ := List.getElem?_eq_some_iff.1 h
  unfold updG slotsOf
  rw [List.take_succ_eq_append_getElem hk, List.filter_append, List.map_append]
  by_cases hq : x = dl[k].fl ∧ y = dl[k].fr
  · rw [if_pos hq, hq.1, hq.2]
    simp
  · rw [if_neg hq]
    have : ¬ ((dl[k].fl == x && dl[k].fr == y) = true) := by
      rw [Bool.and_eq_true, beq_iff_eq, beq_iff_eq]
      exact fun h => hq ⟨h.1.symm, h.2.symm⟩
    have h2 : List.filter (fun d : Dlv => d.fl == x && d.fr == y) [dl[k]] = [] := by
      rw [List.filter_eq_nil_iff]
      intro d hd
      rw [List.mem_singleton.1 hd]
      exact this
    rw [h2]
    simp

set_option maxRecDepth 100000 in
set_option maxHeartbeats 2000000 in
theorem arrivals_any (r : Rec) (A D : Option Addr) (ca cd : Nat) (w : World) (hD : LiesD w w.heap.size D r.dl) (hl : r.dl.length ≤ 1000000) (hn : ∀ d ∈ r.dl, Num64 d.fl ∧ Num64 d.fr ∧ Num64 d.sl) :
    Calls Tryz.prog 103 #[.agg #[.int .i64 r.slots, .slice A r.al.length ca, .slice D r.dl.length cd]] w fun e w' => Below w.heap.size w w' ∧ ∃ b, e = .returned (.map (some b)) ∧ w.heap.size ≤ b ∧ OwnsGr w' (b + 1) b r.dl.length (slotsOf r.dl) := by
  obtain ⟨slots, al, dl⟩ := r
  dsimp only at *
  obtain ⟨i0, hi, hz0, hz1, hz2⟩ := info_parts Tryz.infoInt
  obtain ⟨na, hna⟩ : ∃ n, n = al.length := ⟨_, rfl⟩
  obtain ⟨n, hnd⟩ : ∃ n, n = dl.length := ⟨_, rfl⟩
  rw [← hna, ← hnd]
  rw [← hnd] at hl
  have HN := Lib.hid hnd
  have HNum := Lib.hid hn
  have HD := Lib.hid (fun W (h' : Below w.heap.size w W) => (hD.below h').more h'.size)
  obtain ⟨B, hB⟩ : ∃ B, B = w.heap.size + 1 := ⟨_, rfl⟩
  have HB := Lib.hid hB
  have HS := Lib.hid (OwnsGr.made (w.alloc (.cells #[.int .i64 slots, .slice A na ca, .slice D n cd] 35)))
  have hs1 : (w.alloc (.cells #[.int .i64 slots, .slice A na ca, .slice D n cd] 35)).heap.size = B := by rw [hB]; simp
  rw [hs1] at HS
  clear hna hnd hn hD
  have hmm := @run_makeMap Tryz.prog
  go_enter Tryz.func103, Tryz.ntmps103
  go_wp2_with fail
  rw [← hB]
  clear hB hs1
  go_loopw [12] (fun i wr => ∃ (k : Nat), k ≤ n ∧ i = .int .i64 k ∧ Below w.heap.size w wr ∧ B + 1 ≤ wr.heap.size ∧ Hid (OwnsGr wr (B + 1) B k (slotsOf (dl.take k)))) (fun i _ => n - (intOf i).toNat)
  case atStart => exact ⟨0, Nat.zero_le _, rfl, by repeat (first | exact Below.refl _ _ | refine Below.alloc ?_ (by simp) _), by have := HB.out; simp; omega, HS⟩
  case round =>
    clear HS
    obtain ⟨k, hk, rfl, hb, hBw, HO⟩ := hrel
    by_cases hlt : k < n
    · obtain ⟨a, ha⟩ := get_of_lt (l := dl) (k := k) (by rw [← HN.out]; exact hlt)
      obtain ⟨b, off, rfl, hbB, hcs⟩ := (HD.out _ hb).at_ ha
      obtain ⟨c0, c1, c2⟩ := hcs k a ha
      obtain ⟨n1, n2, n3⟩ := HNum.out a (List.mem_of_getElem? ha)
      have HSt := Lib.hid (fun x y => slots_succ ha x y)
      clear hcs ha
      go_upto_region 6 with fail
      clear c0 c1 c2
      generalize hW1 : World.alloc _ _ = W1
      have b1 : Blk W1 wr.heap.size 137 [.int .i64 a.fl, .int .i64 a.fr, .int .i64 a.sl] := by rw [← hW1]; exact Blk.alloc (Blk.new2 _ [.int .i64 a.fl, .int .i64 a.fr, .int .i64 a.sl] rfl) _
      have b2 : Blk W1 (wr.heap.size + 1) 150 [.int .i64 a.fl, .int .i64 a.fr] := by rw [← hW1]; exact Blk.new2 _ [.int .i64 a.fl, .int .i64 a.fr] (by simp)
      have hbw : Below wr.heap.size wr W1 := by rw [← hW1]; exact ((Below.refl _ _).alloc (Nat.le_refl _) _).alloc (by simp) _
      have hb1 : Below w.heap.size w W1 := hb.trans (hbw.mono hb.size)
      have HO1 := Lib.hid (HO.out.below hbw)
      have hBw1 : B + 1 ≤ W1.heap.size := Nat.le_trans hBw hbw.size
      clear hW1 HO
      obtain ⟨W2, hW2⟩ : ∃ W2, W2 = W1.alloc (.cells #[.int .i64 a.sl] 3) := ⟨_, rfl⟩
      have hbw2 : Below W1.heap.size W1 W2 := by rw [hW2]; exact (Below.refl _ _).alloc (Nat.le_refl _) _
      have b3 : Blk W2 W1.heap.size 3 [.int .i64 a.sl] := by rw [hW2]; exact Blk.new2 _ [.int .i64 a.sl] rfl
      have hb2 : Below w.heap.size w W2 := hb1.trans (hbw2.mono hb1.size)
      have hBw2 : B + 1 ≤ W2.heap.size := Nat.le_trans hBw1 hbw2.size
      obtain ⟨v, w1, st, hent, hg1, hs1, hoi, hzl, hback⟩ := (HO1.out.below hbw2).entry (by unfold maxLen; omega) n1 n2
      have b4 : Blk w1 W1.heap.size 3 [.int .i64 a.sl] := (hg1.block _ b3.lt (fun e => by injection e; omega)).trans b3
      have hb4 : Below w.heap.size w w1 := hb2.grown hg1 hb2.size (fun j hj => by injection hj with hj; have := HB.out; omega)
      have HOI := Lib.hid hoi
      have HBack := Lib.hid hback
      have HB4 := Lib.hid hb4
      have HB4' := Lib.hid b4
      have HZ := Lib.hid hzl
      have hs1' : Hid (w1.heap.size = W2.heap.size) := Lib.hid hs1
      have c1 := b1.row
      have c2 := b2.row
      unfold Row at c1 c2
      clear hoi hback hb4 b4 b3 hzl hs1 hg1 hbw hbw2 HO1 hb2
      subst hW2
      go_wp2_with (at_builtin; refine wpList_append_own_at _ rfl (.tmp 23) (.tmp 26) 24 rfl (B + 1) 3 i0 (.int .i64 0) 1 8 Tryz.underlying24 hi hz0 hz1 hz2 rfl (by decide) v _ _ rfl HOI.out.1 ⟨W1.heap.size, 0, none⟩ 1 1 [.int .i64 a.sl] rfl rfl ?e0 ?e1 ?e2 ?e3 ?e4 ?_)
      case e0 => exact HB4'.out.news2
      case e1 => intro u hu; simp only [List.mem_cons, List.not_mem_nil, or_false] at hu; subst hu; rfl
      case e2 => have := HZ.out; unfold maxLen; omega
      case e3 => have := HZ.out; omega
      case e4 => have := hs1'.out; omega
      intro v' w2 hown' hgrow hnil hloc
      have hint : w2.ownsInts (B + 1) 3 .i64 v' (slotsOf (dl.take k) a.fl a.fr ++ [a.sl]) := ⟨by rw [List.length_append, List.map_append]; exact hown', fun z hz => by
        rcases List.mem_append.1 hz with h | h
        · exact HOI.out.2 z h
        · rw [List.mem_singleton.1 h]; exact n3⟩
      obtain ⟨w3, hsto, ho3, hg3⟩ := HBack.out w2 v' _ hgrow hint (by simp) (by rw [List.length_append]; have := HZ.out; simpa using this) (hloc.imp id (fun h => ⟨_, h, by rw [hs1'.out]; exact Nat.le_refl _⟩))
      have hb5 : Below w.heap.size w w2 := HB4.out.grown hgrow HB4.out.size (fun j hj => by have h1 := (HOI.out.1.lt j hj).1; have := HB.out; omega)
      have hb6 : Below w.heap.size w w3 := hb5.grown hg3 hb5.size (fun j hj => by injection hj with hj; have := HB.out; omega)
      have HB6 : Hid (B + 1 ≤ w3.heap.size) := Lib.hid (by have h1 := hgrow.size; have h2 := hg3.size; have := hs1'.out; omega)
      have HO3 : Hid (OwnsGr w3 (B + 1) B (k + 1) (slotsOf (dl.take (k + 1)))) := Lib.hid (by rw [show slotsOf (dl.take (k + 1)) = _ from funext fun x => funext fun y => HSt.out x y]; exact ho3)
      have hsto' : (Instr.entryStore 145 (.map (some B)) (.int .i64 (st : Int)) v').run Tryz.prog w2 = .ok () w3 := hsto
      clear hint hown' hgrow hnil hloc ho3 hg3 HBack HOI HB4 HB4' HZ HSt hb5 c1 c2 b1 b2 hsto
      go_wp2_with fail
      go_roundw
      case rel => exact ⟨k + 1, by omega, by go_num, hb6, HB6.out, HO3⟩
      case measure => simp [intOf]; omega
    · have hf : Hid (OwnsGr wr (B + 1) B n (slotsOf dl)) := Lib.hid (by
        have h1 : k = n := by omega
        subst h1
        have := HO.out
        rwa [List.take_of_length_le (by rw [← HN.out]; exact Nat.le_refl _)] at this)
      go_wp2_with fail
      go_ret
      exact ⟨hb, B, rfl, by have := HB.out; omega, hf.out⟩
end Go.Proofs.YticnppnejafhdaaGreatDoor
/- Walk: Late of package monitor. -/
namespace Go.Proofs.YticnppnejafhdaaGreatDoor
open Go.RowKit
open Nd Rc Mo

def Mo.Lt.row (x : Lt) : List Value := [.int .i64 x.fl, .int .i64 x.fr, .int .i64 x.sl]
theorem Tryz.infoL : (Tryz.prog.info? 39).map (fun i => (i.zero, i.size, i.bytes)) = some (some (.agg #[.int .i64 0, .int .i64 0, .int .i64 0]), 3, 24) := by kernel_rfl
theorem lateN_len (f : Fl) (dl : List Dlv) (n : Nat) : (lateN f dl n).length ≤ 1 := by unfold lateN; split <;> simp
theorem range_len (f : Fl) (dl : List Dlv) : ∀ n : Nat, ((List.range n).flatMap (lateN f dl)).length ≤ n
  | 0 => by simp
  | n + 1 => by
    rw [List.range_succ, List.flatMap_append, List.length_append]
    have := range_len f dl n
    have h := lateN_len f dl n
    simp only [List.flatMap_cons, List.flatMap_nil, List.append_nil]
    omega
theorem late_len {r : Rec} (hs : r.slots ≤ 4096) : ∀ (l : List Fl), (∀ f ∈ l, fault f = 0) → (l.flatMap (fun f => lateF f r)).length ≤ l.length * 4096
  | [], _ => by simp
  | f :: l, h => by
    rw [List.flatMap_cons, List.length_append, List.length_cons]
    have h1 := late_len hs l (fun g hg => h g (List.mem_cons_of_mem _ hg))
    have h2 := range_len f r.dl (complete f r.slots).toNat
    have h3 := complete_bounds (h f List.mem_cons_self) hs
    have : (lateF f r).length ≤ 4096 := by unfold lateF; omega
    omega
theorem take_snoc {α : Type} {l : List α} {k : Nat} {a : α} (h : l[k]? = some a) : l.take (k + 1) = l.take k ++ [a] := by
  obtain ⟨hk, rfl⟩ := List.getElem?_eq_some_iff.1 h
  rw [List.take_succ_eq_append_getElem hk]
/-- What has been found behind n frames of flow k. -/
def lateQ (fs : List Fl) (r : Rec) (k : Nat) (f : Fl) (n : Nat) : List Lt := (fs.take k).flatMap (fun f => lateF f r) ++ (List.range n).flatMap (lateN f r.dl)
theorem lateQ_succ (fs : List Fl) (r : Rec) (k : Nat) (f : Fl) (n : Nat) : lateQ fs r k f (n + 1) = lateQ fs r k f n ++ lateN f r.dl n := by
  unfold lateQ
  rw [List.range_succ, List.flatMap_append, ← List.append_assoc]
  simp
theorem lateQ_end {fs : List Fl} {r : Rec} {k : Nat} {f : Fl} (h : fs[k]? = some f) : lateQ fs r k f (complete f r.slots).toNat = (fs.take (k + 1)).flatMap (fun f => lateF f r) := by
  unfold lateQ
  rw [take_snoc h, List.flatMap_append]
  simp [lateF]
theorem num_small {a : Int} (h : 0 ≤ a ∧ a ≤ 1000000000) : Num64 a := num64_of (by omega)

set_option maxRecDepth 100000 in
set_option maxHeartbeats 4000000 in
theorem late_any (fs : List Fl) (r : Rec) (F A D : Option Addr) (cf ca cd : Nat) (w : World) (hF : Lies w w.heap.size 6 F (fs.map Fl.row)) (hf : fs.length ≤ 1000000) (hA : LiesA w w.heap.size A r.al) (hD : LiesD w w.heap.size D r.dl) (hla : r.al.length ≤ 1000000) (hld : r.dl.length ≤ 1000000) :
    Calls Tryz.prog 67 #[.slice F fs.length cf, .agg #[.int .i64 r.slots, .slice A r.al.length ca, .slice D r.dl.length cd]] w fun e w' => Below w.heap.size w w' ∧ ∃ v, e = .returned (.tuple #[v, .int .i64 (late fs r).2]) ∧ w'.ownsRow w.heap.size 39 3 v (late fs r).1.length ((late fs r).1.flatMap Lt.row) := by
  obtain ⟨i0, hi, hz0, hz1, hz2⟩ := info_parts Tryz.infoL
  obtain ⟨N, hN⟩ : ∃ N, N = w.heap.size := ⟨_, rfl⟩
  obtain ⟨na, hna⟩ : ∃ n, n = r.al.length := ⟨_, rfl⟩
  obtain ⟨nd, hnd⟩ : ∃ n, n = r.dl.length := ⟨_, rfl⟩
  obtain ⟨m, hm⟩ : ∃ m, m = fs.length := ⟨_, rfl⟩
  obtain ⟨slots, hsl⟩ : ∃ s, s = r.slots := ⟨_, rfl⟩
  obtain ⟨W1, hW1⟩ : ∃ W1, W1 = w.alloc (.cells #[.int .i64 slots, .slice A na ca, .slice D nd cd] 35) := ⟨_, rfl⟩
  have hb1 : Below N w W1 := by rw [hW1, hN]; exact (Below.refl _ _).alloc (Nat.le_refl _) _
  have bR : Blk W1 N 35 [.int .i64 slots, .slice A na ca, .slice D nd cd] := by rw [hW1]; exact Blk.new2 _ [.int .i64 slots, .slice A na ca, .slice D nd cd] hN
  have HW := Lib.hid (fun W (h' : Below W1.heap.size W1 W) => (show Below w.heap.size w W ∧ Row W N [.int .i64 slots, .slice A na ca, .slice D nd cd] from ⟨by rw [← hN]; exact hb1.trans (h'.mono (by have := bR.lt; omega)), (bR.below h' bR.lt).row⟩))
  have HF := Lib.hid (fun W (h' : Below W1.heap.size W1 W) => Lies.later hF (HW.out W h').1)
  have HRt := Lib.hid (right_any fs r F A D cf ca cd W1 (HF.out _ (Below.refl _ _)) hf ((hA.below (HW.out _ (Below.refl _ _)).1).more (HW.out _ (Below.refl _ _)).1.size) ((hD.below (HW.out _ (Below.refl _ _)).1).more (HW.out _ (Below.refl _ _)).1.size) hla hld)
  have HAr := Lib.hid (fun (hg : good r = true) W (h' : Below W1.heap.size W1 W) => arrivals_any r A D ca cd W ((hD.below (HW.out W h').1).more (HW.out W h').1.size) hld (fun d hd => by
    obtain ⟨a1, a2, a3, a4, a5, a6⟩ := good_dlv hg hd
    have := (good_slots hg).2
    exact ⟨num_small (by omega), num_small (by omega), num_small (by omega)⟩))
  rw [← hna, ← hnd, ← hsl] at HRt HAr ⊢
  rw [← hm] at HRt ⊢
  rw [← hnd] at hld
  have HM := Lib.hid hm
  have HSl := Lib.hid hsl
  have HNd := Lib.hid hnd
  have HW1 := Lib.hid hW1
  have HN := Lib.hid hN
  have hNlt : N < W1.heap.size := bR.lt
  clear hF hA hD hna hnd hm hsl hb1 bR hN hf hla
  have r1 := (HW.out _ (Below.refl _ _)).2
  unfold Row at r1
  subst hW1
  go_enter Tryz.func67, Tryz.ntmps67
  clear r1
  go_wp2_with fail
  rw [← HN.out]
  refine HRt.out.mono ?_
  rintro e w2 ⟨rfl, hb2⟩
  clear HRt
  cases hr : right fs r with
  | false =>
    have hl : Hid (late fs r = ([], 1)) := Lib.hid (by unfold late; rw [hr]; rfl)
    clear hr HAr
    go_wp2_with fail
    go_ret2
    exact ⟨(HW.out _ hb2).1, _, by rw [hl.out]; rfl, by rw [hl.out]; exact World.ownsRow_nil _ _ _ _⟩
  | true =>
    have hl : Hid (late fs r = (fs.flatMap (fun f => lateF f r), 0)) := Lib.hid (by unfold late; rw [if_pos hr])
    obtain ⟨hc, hg⟩ := right_inv hr
    obtain ⟨hfa, _, hm16⟩ := chkF_ok hc
    obtain ⟨hs0, hs1⟩ := good_slots hg
    have HFa := Lib.hid hfa
    have HAr := Lib.hid (HAr.out hg _ hb2)
    rw [← HSl.out] at hs0 hs1
    have hm16' : m ≤ 16 := by rw [HM.out]; exact hm16
    have r2 := (HW.out _ hb2).2
    unfold Row at r2
    clear hc hg hfa hr hm16
    go_wp2_with fail
    refine HAr.out.mono ?_
    rintro e w3 ⟨hb3, b, rfl, hbb, hO⟩
    clear HAr r2
    have hB3 : Below (World.heap (w.alloc (.cells #[.int .i64 slots, .slice A na ca, .slice D nd cd] 35))).size (w.alloc (.cells #[.int .i64 slots, .slice A na ca, .slice D nd cd] 35)) w3 := hb2.trans (hb3.mono hb2.size)
    have HG := Lib.hid (fun W (h' : Below w3.heap.size w3 W) => (show OwnsGr W (b + 1) b nd (slotsOf r.dl) from hO.below h'))
    have HX := Lib.hid (fun W (h' : Below w3.heap.size w3 W) => (show Below w.heap.size w W ∧ Row W N [.int .i64 slots, .slice A na ca, .slice D nd cd] ∧ Lies W W.heap.size 6 F (fs.map Fl.row) ∧ w3.heap.size ≤ W.heap.size from ⟨(HW.out _ (hB3.trans (h'.mono hB3.size))).1, (HW.out _ (hB3.trans (h'.mono hB3.size))).2, HF.out _ (hB3.trans (h'.mono hB3.size)), h'.size⟩))
    have hMN : N < w3.heap.size := Nat.lt_of_lt_of_le hNlt hB3.size
    have hbM : b < w3.heap.size := by
      obtain ⟨D0, h1, _⟩ := hO
      obtain ⟨es, clock, hb0, _⟩ := h1
      exact (Array.getElem?_eq_some_iff.1 hb0).1
    clear hO hb3 hb2 HW HF hbb
    go_wp2_with fail
    go_loopw [7, 21] (fun s7 i wr => ∃ (k : Nat) (v : Value), v = s7 ∧ k ≤ m ∧ i = .int .i64 k ∧ Below w3.heap.size w3 wr ∧ Hid (wr.ownsRow w3.heap.size 39 3 v ((fs.take k).flatMap (fun f => lateF f r)).length (((fs.take k).flatMap (fun f => lateF f r)).flatMap Lt.row))) (fun _ i _ => m - (intOf i).toNat)
    case atStart => exact ⟨0, _, rfl, by omega, rfl, Below.refl _ _, Lib.hid (World.ownsRow_nil _ _ _ _)⟩
    case round =>
      obtain ⟨k, v, rfl, hk, rfl, hb, HO⟩ := hrel
      by_cases hlt : k < m
      · obtain ⟨f, hfk⟩ := get_of_lt (l := fs) (k := k) (by rw [← HM.out]; exact hlt)
        have hff := HFa.out f (List.mem_of_getElem? hfk)
        obtain ⟨fb, foff, rfl, hfB, hcs⟩ := (HX.out _ hb).2.2.1.at_ hfk
        have c0 := hcs k f hfk 0 _ rfl
        have c1 := hcs k f hfk 1 _ rfl
        have c2 := hcs k f hfk 2 _ rfl
        have c3 := hcs k f hfk 3 _ rfl
        have c4 := hcs k f hfk 4 _ rfl
        have c5 := hcs k f hfk 5 _ rfl
        simp only [Nat.add_zero] at c0 c1 c2 c3 c4 c5
        have HFk := Lib.hid hfk
        clear hcs
        go_upto_region 8 with fail
        clear c0 c1 c2 c3 c4 c5 hfk
        obtain ⟨X, hX⟩ : ∃ X, X = wr.heap.size := ⟨_, rfl⟩
        generalize hWa : World.alloc _ _ = Wa
        have bX : Blk Wa X 28 [.int .i64 f.id, .int .i64 f.fr, .int .i64 f.tn, .int .i64 f.pe, .int .i64 f.ph, .int .i64 f.dl] := by rw [← hWa]; exact Blk.new2 _ [.int .i64 f.id, .int .i64 f.fr, .int .i64 f.tn, .int .i64 f.pe, .int .i64 f.ph, .int .i64 f.dl] hX
        have hba : Below w3.heap.size w3 Wa := by rw [← hWa]; exact hb.alloc hb.size _
        have HOa : Hid (Wa.ownsRow w3.heap.size 39 3 v ((fs.take k).flatMap (fun f => lateF f r)).length (((fs.take k).flatMap (fun f => lateF f r)).flatMap Lt.row)) := Lib.hid (by rw [← hWa]; exact HO.out.alloc _)
        rw [← hX]
        have hXM : w3.heap.size ≤ X := by rw [hX]; exact hb.size
        clear hWa hX HO hb
        have Con := Lib.hid (complete_any f slots (.slice A na ca) (.slice D nd cd) hff hs0 hs1 rfl rfl Wa)
        have hcb := complete_bounds hff hs1
        obtain ⟨cn, hcn⟩ : ∃ cn : Nat, complete f slots = (cn : Int) := ⟨(complete f slots).toNat, by omega⟩
        have HCN : Hid (cn = (complete f r.slots).toNat) := Lib.hid (by rw [← HSl.out, hcn]; rfl)
        have hcn4 : cn ≤ 4096 := by omega
        rw [hcn] at Con
        have rX := bX.row
        have r3 := (HX.out _ hba).2.1
        unfold Row at rX r3
        clear hcb hcn
        go_wp2_with fail
        refine Con.out.mono ?_
        rintro e w4 ⟨rfl, hb4⟩
        have hB4 : Below w3.heap.size w3 w4 := hba.trans (hb4.mono hba.size)
        have HX4 : Hid (Blk w4 X 28 [.int .i64 f.id, .int .i64 f.fr, .int .i64 f.tn, .int .i64 f.pe, .int .i64 f.ph, .int .i64 f.dl]) := Lib.hid (bX.below hb4 bX.lt)
        have HO4 : Hid (w4.ownsRow w3.heap.size 39 3 v (lateQ fs r k f 0).length ((lateQ fs r k f 0).flatMap Lt.row)) := Lib.hid (by have := own_below HOa.out hb4 (Nat.le_refl _); unfold lateQ; simpa using this)
        have HQl : Hid (∀ n, n ≤ 4096 → (lateQ fs r k f n).length ≤ 100000) := Lib.hid (fun n hn => by
          unfold lateQ
          rw [List.length_append]
          have h1 := late_len (r := r) (by rw [← HSl.out]; exact hs1) (fs.take k) (fun g hg => HFa.out g (List.mem_of_mem_take hg))
          have h2 := range_len f r.dl n
          have h3 := List.length_take_le k fs
          rw [List.length_take] at h1
          have h4 : min k fs.length ≤ 16 := by omega
          omega)
        clear Con rX r3 bX hba HOa hb4
        go_wp2_with fail
        go_loopw [7, 28] (fun s7 j wr => ∃ (n : Nat) (v : Value), v = s7 ∧ n ≤ cn ∧ j = .int .i64 n ∧ Below w3.heap.size w3 wr ∧ Hid (Blk wr X 28 [.int .i64 f.id, .int .i64 f.fr, .int .i64 f.tn, .int .i64 f.pe, .int .i64 f.ph, .int .i64 f.dl]) ∧ Hid (wr.ownsRow w3.heap.size 39 3 v (lateQ fs r k f n).length ((lateQ fs r k f n).flatMap Lt.row))) (fun _ j _ => cn - (intOf j).toNat)
        case atStart => exact ⟨0, _, rfl, by omega, rfl, hB4, HX4, HO4⟩
        case round =>
          clear HX4 HO4 hB4
          obtain ⟨n, v2, rfl, hn, rfl, hb, HXb, HO⟩ := hrel
          by_cases hlt2 : n < cn
          · obtain ⟨wd, hwd⟩ : ∃ wd, wd = wr.drew := ⟨_, rfl⟩
            have hbd : Below wr.heap.size wr wd := by rw [hwd]; exact (Below.refl _ _).drew
            obtain ⟨u5, hlook', hoi⟩ := (HG.out wd (hb.trans (hbd.mono hb.size))).look (by unfold maxLen; omega) (a := f.id) (c := (n : Int)) (num_small (by obtain ⟨h1, _⟩ := fault_zero hff; omega)) (num_small (by omega))
            obtain ⟨A5, c5, hu5⟩ := own_form2 hoi.1
            have hl5 : (slotsOf r.dl f.id (n : Int)).length ≤ 1000000 := by
              have h1 : (slotsOf r.dl f.id (n : Int)).length ≤ r.dl.length := by unfold slotsOf; rw [List.length_map]; exact List.length_filter_le _ _
              have := HNd.out
              omega
            have hI5 : LiesI wd wd.heap.size A5 (slotsOf r.dl f.id (n : Int)) := by
              have h1 := hoi.1
              rw [hu5] at h1
              exact own_I (by rw [flatI_map]; exact h1)
            have Con := Lib.hid (arrival_any f n (slotsOf r.dl f.id (n : Int)) A5 c5 wd hff (by omega) (by omega) hI5 hl5)
            rw [hu5] at hlook'
            obtain ⟨T5, hT5⟩ : ∃ T5, T5 = arrival f n (slotsOf r.dl f.id (n : Int)) := ⟨_, rfl⟩
            rw [← hT5] at Con
            have HT5 : Hid (lateN f r.dl n = if T5.2 = true then [] else [⟨f.id, n, T5.1⟩]) := Lib.hid (by unfold lateN; rw [← hT5])
            obtain ⟨q5, hq5⟩ : ∃ q, q = (slotsOf r.dl f.id (n : Int)).length := ⟨_, rfl⟩
            rw [← hq5] at Con hlook'
            have HXd : Hid (Blk wd X 28 [.int .i64 f.id, .int .i64 f.fr, .int .i64 f.tn, .int .i64 f.pe, .int .i64 f.ph, .int .i64 f.dl]) := Lib.hid (by rw [hwd]; exact HXb.out.drew)
            have hXl : X < wr.heap.size := HXb.out.lt
            have HDZ : Hid (wr.heap.size = wd.heap.size) := Lib.hid (by rw [hwd]; rfl)
            have hBd : Below w3.heap.size w3 wd := hb.trans (hbd.mono hb.size)
            have HOd : Hid (wd.ownsRow w3.heap.size 39 3 v2 (lateQ fs r k f n).length ((lateQ fs r k f n).flatMap Lt.row)) := Lib.hid (own_below HO.out hbd (Nat.le_refl _))
            have hn6 : (n : Int) ≤ 1000000 := by omega
            clear hoi hu5 hI5 hl5 hT5 hq5 hbd
            go_upto_region 11 with fail
            refine wp_region_rough (wr.heap.size) 14 [] #[false, false, false, false, false, false, false, false, false, false, false, false, false, false] (by kernel_rfl) rfl rfl ?_
            rw [← hwd]
            clear hwd
            have y0 : ∀ (x' : ExtW wr.heap.size wd), x'.val.cell? ⟨X, 0, none⟩ = some (.int .i64 f.id) := fun x' => (x'.cell _ hXl).trans (HXd.out.row 0)
            have y1 : ∀ (x' : ExtW wr.heap.size wd), x'.val.cell? ⟨X, 1, none⟩ = some (.int .i64 f.fr) := fun x' => (x'.cell _ hXl).trans (HXd.out.row 1)
            have y2 : ∀ (x' : ExtW wr.heap.size wd), x'.val.cell? ⟨X, 2, none⟩ = some (.int .i64 f.tn) := fun x' => (x'.cell _ hXl).trans (HXd.out.row 2)
            have y3 : ∀ (x' : ExtW wr.heap.size wd), x'.val.cell? ⟨X, 3, none⟩ = some (.int .i64 f.pe) := fun x' => (x'.cell _ hXl).trans (HXd.out.row 3)
            have y4 : ∀ (x' : ExtW wr.heap.size wd), x'.val.cell? ⟨X, 4, none⟩ = some (.int .i64 f.ph) := fun x' => (x'.cell _ hXl).trans (HXd.out.row 4)
            have y5 : ∀ (x' : ExtW wr.heap.size wd), x'.val.cell? ⟨X, 5, none⟩ = some (.int .i64 f.dl) := fun x' => (x'.cell _ hXl).trans (HXd.out.row 5)
            refine anyR_take 0 _ (nth0) rfl (by kernel_rfl) (by kernel_rfl) (by kernel_rfl) (by kernel_rfl) (l' := #[true, false, false, false, false, false, false, false, false, false, false, false, false, false]) rfl rfl ?_; intro K hK; go_big_quiet_op; go_big_quiet_on
            refine anyR_take0 1 _ (nthS (nth0)) rfl (by kernel_rfl) (by kernel_rfl) (by kernel_rfl) (l' := #[true, true, false, false, false, false, false, false, false, false, false, false, false, false]) rfl rfl ?_; intro K hK; go_big_quiet_op; go_big_quiet_on
            refine anyR_take0 2 _ (nthS (nthS (nth0))) rfl (by kernel_rfl) (by kernel_rfl) (by kernel_rfl) (l' := #[true, true, true, false, false, false, false, false, false, false, false, false, false, false]) rfl rfl ?_; intro K hK; go_big_quiet_op; go_big_quiet_on
            refine anyR_take0 3 _ (nthS (nthS (nthS (nth0)))) rfl (by kernel_rfl) (by kernel_rfl) (by kernel_rfl) (l' := #[true, true, true, true, false, false, false, false, false, false, false, false, false, false]) rfl rfl ?_; intro K hK; go_big_quiet_op; go_big_quiet_on
            refine anyR_take 4 _ (nthS (nthS (nthS (nthS (nth0))))) rfl (by kernel_rfl) (by kernel_rfl) (by kernel_rfl) (by kernel_rfl) (l' := #[true, true, true, true, true, false, false, false, false, false, false, false, false, false]) rfl rfl ?_; intro K hK; go_big_quiet_op; go_big_quiet_on
            refine anyR_take0 5 _ (nthS (nthS (nthS (nthS (nthS (nth0)))))) rfl (by kernel_rfl) (by kernel_rfl) (by kernel_rfl) (l' := #[true, true, true, true, true, true, false, false, false, false, false, false, false, false]) rfl rfl ?_; intro K hK; go_big_quiet_op; go_big_quiet_on
            refine anyR_take0 6 _ (nthS (nthS (nthS (nthS (nthS (nthS (nth0))))))) rfl (by kernel_rfl) (by kernel_rfl) (by kernel_rfl) (l' := #[true, true, true, true, true, true, true, false, false, false, false, false, false, false]) rfl rfl ?_; intro K hK; go_big_quiet_op; go_big_quiet_on
            refine anyR_one 7 _ (nthS (nthS (nthS (nthS (nthS (nthS (nthS (nth0)))))))) (by kernel_rfl) (l' := #[true, true, true, true, true, true, true, true, false, false, false, false, false, false]) rfl ?_
            clear y0 y1 y2 y3 y4 y5
            go_wp2_with fail
            clear hlook'
            refine OneR_mk (Below.refl _ _) ?_
            refine anyR_one 8 _ (nthS (nthS (nthS (nthS (nthS (nthS (nthS (nthS (nth0))))))))) (by kernel_rfl) (l' := #[true, true, true, true, true, true, true, true, true, false, false, false, false, false]) rfl ?_
            go_wp2_with fail
            refine Con.out.mono ?_
            rintro e w5 ⟨rfl, hb5⟩
            clear Con
            go_wp2_with fail
            refine OneR_mk (hb5.mono (Nat.le_of_eq HDZ.out)) ?_
            refine anyR_take0 9 _ (nthS (nthS (nthS (nthS (nthS (nthS (nthS (nthS (nthS (nth0)))))))))) rfl (by kernel_rfl) (by kernel_rfl) (by kernel_rfl) (l' := #[true, true, true, true, true, true, true, true, true, true, false, false, false, false]) rfl rfl ?_; intro K hK; go_big_quiet_op; go_big_quiet_on
            refine anyR_take0 10 _ (nthS (nthS (nthS (nthS (nthS (nthS (nthS (nthS (nthS (nthS (nth0))))))))))) rfl (by kernel_rfl) (by kernel_rfl) (by kernel_rfl) (l' := #[true, true, true, true, true, true, true, true, true, true, true, false, false, false]) rfl rfl ?_; intro K hK; go_big_quiet_op; go_big_quiet_on
            refine anyR_take0 11 _ (nthS (nthS (nthS (nthS (nthS (nthS (nthS (nthS (nthS (nthS (nthS (nth0)))))))))))) rfl (by kernel_rfl) (by kernel_rfl) (by kernel_rfl) (l' := #[true, true, true, true, true, true, true, true, true, true, true, true, false, false]) rfl rfl ?_; intro K hK; go_big_quiet_op; go_big_quiet_on
            refine anyR_take0 12 _ (nthS (nthS (nthS (nthS (nthS (nthS (nthS (nthS (nthS (nthS (nthS (nthS (nth0))))))))))))) rfl (by kernel_rfl) (by kernel_rfl) (by kernel_rfl) (l' := #[true, true, true, true, true, true, true, true, true, true, true, true, true, false]) rfl rfl ?_; intro K hK; go_big_quiet_op; go_big_quiet_on
            refine anyR_take0 13 _ (nthS (nthS (nthS (nthS (nthS (nthS (nthS (nthS (nthS (nthS (nthS (nthS (nthS (nth0)))))))))))))) rfl (by kernel_rfl) (by kernel_rfl) (by kernel_rfl) (l' := #[true, true, true, true, true, true, true, true, true, true, true, true, true, true]) rfl rfl ?_; intro K hK; go_big_quiet_op; go_big_quiet_on
            refine anyR_end (by kernel_rfl) ?_
            have hB5 : Below w3.heap.size w3 w5 := hBd.trans (hb5.mono hBd.size)
            have HX5 : Hid (Blk w5 X 28 [.int .i64 f.id, .int .i64 f.fr, .int .i64 f.tn, .int .i64 f.pe, .int .i64 f.ph, .int .i64 f.dl]) := Lib.hid (HXd.out.below hb5 HXd.out.lt)
            have HO5 : Hid (w5.ownsRow w3.heap.size 39 3 v2 (lateQ fs r k f n).length ((lateQ fs r k f n).flatMap Lt.row)) := Lib.hid (own_below HOd.out hb5 (Nat.le_refl _))
            clear HOd HXd hBd HDZ hb5 HO HXb hb hXl hn6
            cases hok : T5.2 with
            | true =>
              have hQ : Hid (lateQ fs r k f (n + 1) = lateQ fs r k f n) := Lib.hid (by rw [lateQ_succ, HT5.out, hok]; simp)
              clear hok
              go_wp2_with fail
              go_roundw
              case rel => exact ⟨n + 1, v2, rfl, by omega, by go_num, hB5, HX5, Lib.hid (by rw [hQ.out]; exact HO5.out)⟩
              case measure => simp [intOf]; omega
            | false =>
              have hQ : Hid (lateQ fs r k f (n + 1) = lateQ fs r k f n ++ [⟨f.id, n, T5.1⟩]) := Lib.hid (by rw [lateQ_succ, HT5.out, hok]; simp)
              clear hok
              have hl5 := HQl.out n (by omega)
              have rX := HX5.out.row
              unfold Row at rX
              go_wp2_with (at_builtin; refine wpList_append_own_at _ rfl (.tmp 45) (.tmp 51) 117 rfl w3.heap.size 39 i0 (.agg #[.int .i64 0, .int .i64 0, .int .i64 0]) 3 24 Tryz.underlying117 hi hz0 hz1 hz2 rfl (by decide) v2 _ _ rfl (HO5.out.alloc _) ⟨w5.heap.size, 0, none⟩ 1 1 [.int .i64 f.id, .int .i64 (n : Int), .int .i64 T5.1] rfl rfl ?e0 ?e1 ?e2 ?e3 ?e4 ?_)
              case e0 => exact (Blk.new2 39 [.int .i64 f.id, .int .i64 (n : Int), .int .i64 T5.1] rfl).news2
              case e1 => intro u hu; simp only [List.mem_cons, List.not_mem_nil, or_false] at hu; rcases hu with rfl | rfl | rfl <;> rfl
              case e2 => unfold maxLen; omega
              case e3 => omega
              case e4 => simp; have := hB5.size; omega
              intro v7 w7 ho7 hg7 hnil7 hat7
              clear hnil7 hat7
              have hB6 : Below w3.heap.size w3 (w5.alloc (.cells #[.int .i64 f.id, .int .i64 (n : Int), .int .i64 T5.1] 39)) := hB5.alloc hB5.size _
              have hB7 : Below w3.heap.size w3 w7 := hB6.grown hg7 hB6.size (fun j hj => (HO5.out.lt j hj).1)
              have HX7 : Hid (Blk w7 X 28 [.int .i64 f.id, .int .i64 f.fr, .int .i64 f.tn, .int .i64 f.pe, .int .i64 f.ph, .int .i64 f.dl]) := Lib.hid ((hg7.block X (by have := HX5.out.lt; simp; omega) (fun e => by have := own_type2 HO5.out e HX5.out; revert this; decide)).trans (HX5.out.alloc _))
              have HO7 : Hid (w7.ownsRow w3.heap.size 39 3 v7 (lateQ fs r k f (n + 1)).length ((lateQ fs r k f (n + 1)).flatMap Lt.row)) := Lib.hid (by rw [hQ.out]; simpa [Mo.Lt.row] using ho7)
              obtain ⟨A7, c7, hv7⟩ := own_form2 ho7
              clear ho7 hg7 hB6 rX hl5
              subst hv7
              go_wp2_with fail
              go_roundw
              case rel => exact ⟨n + 1, _, rfl, by omega, by go_num, hB7, HX7, HO7⟩
              case measure => simp [intOf]; omega
          · have h1 : n = cn := by omega
            subst h1
            have HOn : Hid (wr.ownsRow w3.heap.size 39 3 v2 ((fs.take (k + 1)).flatMap (fun f => lateF f r)).length (((fs.take (k + 1)).flatMap (fun f => lateF f r)).flatMap Lt.row)) := Lib.hid (by rw [← lateQ_end HFk.out, ← HCN.out]; exact HO.out)
            clear HO HXb
            go_wp2_with fail
            go_roundw
            case rel => exact ⟨k + 1, v2, rfl, by omega, by go_num, hb, HOn⟩
            case measure => simp [intOf]; omega
      · have h1 : k = m := by omega
        subst h1
        have hto : fs.take k = fs := List.take_of_length_le (by rw [← HM.out]; exact Nat.le_refl _)
        rw [hto] at HO
        obtain ⟨A7, c7, hv7⟩ := own_form2 HO.out
        subst hv7
        go_wp2_with fail
        go_ret2
        exact ⟨(HX.out _ hb).1, _, by rw [hl.out]; rfl, by rw [hl.out]; exact own_base HO.out (by have := HN.out; omega)⟩
end Go.Proofs.YticnppnejafhdaaGreatDoor
/- Abstract data: records, flows, late frames. -/
namespace Go.Proofs.YticnppnejafhdaaGreatDoor
open Go.RowKit
open Nd Rc Mo
open Av
set_option maxRecDepth 100000
set_option linter.unusedSimpArgs false

abbrev iv (n : Int) : AV := .v (.int .i64 n)
abbrev ip (n : Int) : PV := .v (.int .i64 n)
abbrev bv (b : Bool) : AV := .v (.bool b)
def Rc.Att.pv (a : Att) : List PV := [ip a.s, ip a.f, ip a.cs, ip a.co, ip a.cf, ip a.ct, ip a.cl, ip a.o]
def Rc.Dlv.pv (d : Dlv) : List PV := [ip d.fl, ip d.fr, ip d.sl]
def Nd.Fl.pv (f : Fl) : List PV := [ip f.id, ip f.fr, ip f.tn, ip f.pe, ip f.ph, ip f.dl]
def Mo.Lt.pv (x : Lt) : List PV := [ip x.fl, ip x.fr, ip x.sl]
def Rc.Rec.pv (r : Rec) : List PV := [ip r.slots, .sl 8 (r.al.map Att.pv), .sl 3 (r.dl.map Dlv.pv)]
theorem map_pv {α : Type} {f : α → List PV} {g : α → List Value} (h : ∀ x, f x = (g x).map PV.v) (l : List α) : l.map f = (l.map g).map fun row => row.map PV.v := by
  rw [List.map_map]
  exact List.map_congr_left fun x _ => h x
theorem att_pv (l : List Att) : l.map Att.pv = (l.map Att.row).map fun row => row.map PV.v := map_pv (f := Att.pv) (g := Att.row) (fun _ => rfl) l
theorem dlv_pv (l : List Dlv) : l.map Dlv.pv = (l.map Dlv.row).map fun row => row.map PV.v := map_pv (f := Dlv.pv) (g := Dlv.row) (fun _ => rfl) l
theorem fl_pv (l : List Fl) : l.map Fl.pv = (l.map Fl.row).map fun row => row.map PV.v := map_pv (f := Fl.pv) (g := Fl.row) (fun _ => rfl) l
theorem lt_pv (l : List Lt) : l.map Lt.pv = (l.map Lt.row).map fun row => row.map PV.v := map_pv (f := Lt.pv) (g := Lt.row) (fun _ => rfl) l
theorem rec_rep {w : World} {R : Reader} {bx : Nat → Nat} {r : Rec} {u : Value} (hR : ∀ p v, R p = some v → w.cell? p = some v) (h : RepA R bx (.agg r.pv) u) :
    ∃ A D ca cd, u = .agg #[.int .i64 r.slots, .slice A r.al.length ca, .slice D r.dl.length cd] ∧ LiesA w w.heap.size A r.al ∧ LiesD w w.heap.size D r.dl := by
  obtain ⟨us, rfl, h⟩ := h
  cases h with
  | cons h1 h =>
    cases h with
    | cons h2 h =>
      cases h with
      | cons h3 h =>
        cases h
        cases h1
        rw [att_pv] at h2
        rw [dlv_pv] at h3
        obtain ⟨A, ca, rfl, hA⟩ := lies_of_rep hR (by decide) h2
        obtain ⟨D, cd, rfl, hD⟩ := lies_of_rep hR (by decide) h3
        rw [List.length_map, List.length_map]
        exact ⟨A, D, ca, cd, rfl, hA, hD⟩
theorem fls_rep {w : World} {R : Reader} {bx : Nat → Nat} {fs : List Fl} {u : Value} (hR : ∀ p v, R p = some v → w.cell? p = some v) (h : RepA R bx (.sl 6 (fs.map Fl.pv)) u) :
    ∃ A c, u = .slice A fs.length c ∧ Lies w w.heap.size 6 A (fs.map Fl.row) := by
  have h' : RepP R (.sl 6 (fs.map Fl.pv)) u := h
  rw [fl_pv] at h'
  obtain ⟨A, c, rfl, hA⟩ := lies_of_rep hR (by decide) h'
  rw [List.length_map]
  exact ⟨A, c, rfl, hA⟩
theorem fl_rep {R : Reader} {bx : Nat → Nat} {f : Fl} {u : Value} (h : RepA R bx (.agg f.pv) u) : u = .agg #[.int .i64 f.id, .int .i64 f.fr, .int .i64 f.tn, .int .i64 f.pe, .int .i64 f.ph, .int .i64 f.dl] := by
  obtain ⟨us, rfl, h⟩ := h
  rw [show f.pv = [.int .i64 f.id, .int .i64 f.fr, .int .i64 f.tn, .int .i64 f.pe, .int .i64 f.ph, .int .i64 f.dl].map PV.v from rfl] at h
  rw [rep_vs h]
/-- A result that is a value, or values. -/
theorem res_v {R : Reader} {w w' : World} {x : Value} : ResRep R w w' ⟨.v x, none⟩ x := ⟨rfl, rfl⟩
theorem res_vv {R : Reader} {w w' : World} {x y : Value} (hx : x.oneCell' = true) (hy : y.oneCell' = true) : ResRep R w w' ⟨.tup [.c (.v x), .c (.v y)], none⟩ (.tuple #[x, y]) := ⟨rfl, [x, y], rfl, .cons (.c (.v x hx)) (.cons (.c (.v y hy)) .nil)⟩
theorem res_rows {R : Reader} {w w' : World} {e : TypeId} {sz : Nat} {v : Value} {xs : List (List Value)} {n : Int} (hs : 0 < sz) (h : w'.ownsRow w.heap.size e sz v xs.length xs.flatten) (hl : ∀ row ∈ xs, row.length = sz) (h1 : ∀ row ∈ xs, ∀ x ∈ row, x.oneCell' = true) :
    ResRep R w w' ⟨.tup [.c (.sl sz (xs.map fun row => row.map PV.v)), .c (ip n)], none⟩ (.tuple #[v, .int .i64 n]) := by
  obtain ⟨q, _, h2⟩ := owns_rep (R := R) hs h hl h1
  have h3 := h2 none (.inl rfl)
  refine ⟨rfl, [v, .int .i64 n], rfl, .cons (.c (h3.mono fun p y hp => ?_)) (.cons (.c (.v _ rfl)) .nil)⟩
  unfold fresh at hp ⊢
  split at hp
  · rename_i hb; rw [if_pos hb]; exact hp
  · rename_i hb
    rw [if_neg hb, if_neg (by rintro ⟨h4, _⟩; cases h4)]
    split at hp
    · cases hp
    · exact hp
end Go.Proofs.YticnppnejafhdaaGreatDoor
/- Contracts that were proved over memory, lifted: flows, records, the monitor. -/
namespace Go.Proofs.YticnppnejafhdaaGreatDoor
open Go.RowKit
open Nd Rc Mo
open Av
set_option maxRecDepth 100000
set_option linter.unusedSimpArgs false

theorem late_ok (fs : List Fl) (r : Rec) (hf : fs.length ≤ 1000000) (hla : r.al.length ≤ 1000000) (hld : r.dl.length ≤ 1000000) : FnOK Tryz.prog 67 [.sl 6 (fs.map Fl.pv), .agg r.pv] ⟨.tup [.c (.sl 3 ((late fs r).1.map Lt.pv)), .c (ip (late fs r).2)], none⟩ := fn_of ⟨Tryz.f67, _, Tryz.func67, by kernel_rfl, rfl⟩ fun w R hR us hus => by
  cases hus with | cons h0 _ hus =>
  cases hus with | cons h1 _ hus =>
  cases hus
  obtain ⟨F, cf, rfl, hF⟩ := fls_rep hR h0
  obtain ⟨A, D, ca, cd, rfl, hA, hD⟩ := rec_rep hR h1
  refine (late_any fs r F A D cf ca cd w hF hf hA hD hla hld).mono ?_
  rintro e w' ⟨hb, v, rfl, hown⟩
  refine ⟨_, rfl, hb, ?_⟩
  rw [lt_pv]
  rw [List.flatMap_def, ← List.length_map (f := Lt.row)] at hown
  exact res_rows (by decide) hown (fun row hr => by obtain ⟨x, _, rfl⟩ := List.mem_map.1 hr; rfl) (fun row hr x hx => by obtain ⟨y, _, rfl⟩ := List.mem_map.1 hr; simp only [Lt.row, List.mem_cons, List.not_mem_nil, or_false] at hx; rcases hx with rfl | rfl | rfl <;> rfl)

theorem check_ok (r : Rec) (hla : r.al.length ≤ 1000000) (hld : r.dl.length ≤ 1000000) : FnOK Tryz.prog 56 [.agg r.pv] ⟨iv (checkE r), none⟩ := fn_of ⟨Tryz.f56, _, Tryz.func56, by kernel_rfl, rfl⟩ fun w R hR us hus => by
  cases hus with | cons h0 _ hus =>
  cases hus
  obtain ⟨A, D, ca, cd, rfl, hA, hD⟩ := rec_rep hR h0
  refine (check_any r A D ca cd w hA hD (by omega) (by omega)).mono ?_
  rintro e w' ⟨rfl, hb⟩
  exact ⟨_, rfl, hb, res_v⟩

end Go.Proofs.YticnppnejafhdaaGreatDoor
/- Plain: networks, and what Check says of them. No program's numbers. -/
namespace Go.Proofs.YticnppnejafhdaaGreatDoor
namespace Mo
open Nd
structure Lk where
  (fr tt ls : Int)
structure Net where
  (nodes noise thr : Int)
  (pow : List (List Int))
  (lk : List Lk)
  (mg : List Int)
def outP (p : Int) : Bool := decide (p < 0) || decide (68719476736 < p)
def powE (nodes : Int) (pow : List (List Int)) : Int :=
  if ((pow.length : Nat) : Int) ≠ nodes ∨ pow.any (fun r => !(((r.length : Nat) : Int) == nodes)) = true then 1 else if pow.any (fun r => r.any outP) = true then 2 else 0
def lkB (nodes : Int) (l : Lk) : Bool := inB l.fr 0 (nodes - 1) && (inB l.tt 0 (nodes - 1) && (!(l.fr == l.tt) && inB l.ls 0 7))
def prevBadL (p : Option Lk) (l : Lk) : Bool := match p with
  | none => false
  | some q => decide (l.fr < q.fr) || (q.fr == l.fr && decide (l.tt ≤ q.tt))
def powAt (pow : List (List Int)) (a b : Int) : Int := (pow.getD a.toNat []).getD b.toNat 0
def lkE (nodes : Int) (pow : List (List Int)) (p : Option Lk) (l : Lk) (m : Int) : Int :=
  if lkB nodes l = false then 2 else if prevBadL p l = true then 5 else if m < 0 ∨ powAt pow l.fr l.tt < m then 2 else 0
def lkGo (nodes : Int) (pow : List (List Int)) : Option Lk → List Lk → List Int → Int
  | _, [], _ => 0
  | p, l :: ls, ms => if lkE nodes pow p l (ms.headD 0) = 0 then lkGo nodes pow (some l) ls ms.tail else lkE nodes pow p l (ms.headD 0)
/-- The first fault of a network. -/
def chkN (n : Net) : Int :=
  if n.nodes < 2 ∨ 32 < n.nodes then 2
  else if powE n.nodes n.pow ≠ 0 then powE n.nodes n.pow
  else if inB n.noise 0 68719476736 = false ∨ inB n.thr 1000 100000 = false then 2
  else if 128 < n.lk.length then 8
  else if n.mg.length ≠ n.lk.length then 11
  else lkGo n.nodes n.pow none n.lk n.mg
end Mo
end Go.Proofs.YticnppnejafhdaaGreatDoor
