/- Words for memory: slices that read as lists of rows of cells; a family of later worlds for regions that draw their order. Generic: no program's numbers. -/
import Derived.Test.YtaafmckdmeikjaaDoorPure
import Derived.WalkKit
import Derived.WalkLawsBesides
import Derived.KernelRfl
import Derived.Outline
import Derived.LoopTactic
import Derived.Deep.QuietTactic
import Derived.BigQuiet
import Derived.Deep.DeepFit
import Derived.Lib.Hide
namespace Go.Proofs.YtaafmckdmeikjaaDoor
open Go.RowKit

/-- The slice with address A holds the rows xs, sz cells a row, in blocks below B. -/
def Lies (w : World) (B sz : Nat) (A : Option Addr) (xs : List (List Value)) : Prop :=
  xs ≠ [] → ∃ b off, A = some ⟨b, off, none⟩ ∧ b < B ∧ ∀ k row, xs[k]? = some row → ∀ j u, row[j]? = some u → w.cell? ⟨b, off + k * sz + j, none⟩ = some u

theorem Lies.nil (w : World) (B sz : Nat) (A : Option Addr) : Lies w B sz A [] := fun h => absurd rfl h
theorem Lies.keep {w w' : World} {B sz : Nat} {A : Option Addr} {xs : List (List Value)} (h : Lies w B sz A xs) (hk : ∀ p : Addr, p.block < B → w'.cell? p = w.cell? p) : Lies w' B sz A xs := by
  intro hne
  obtain ⟨b, off, e, hb, hc⟩ := h hne
  exact ⟨b, off, e, hb, fun k row hr j u hu => (hk _ hb).trans (hc k row hr j u hu)⟩
theorem Lies.below {w w' : World} {B sz : Nat} {A : Option Addr} {xs : List (List Value)} (h : Lies w B sz A xs) (hb : Below B w w') : Lies w' B sz A xs :=
  h.keep fun _ hp => hb.cell hp
theorem Lies.below_le {w w' : World} {B B' sz : Nat} {A : Option Addr} {xs : List (List Value)} (h : Lies w B sz A xs) (hb : Below B' w w') (hB : B ≤ B') : Lies w' B sz A xs :=
  h.keep fun _ hp => hb.cell (Nat.lt_of_lt_of_le hp hB)
theorem Lies.more {w : World} {B B' sz : Nat} {A : Option Addr} {xs : List (List Value)} (h : Lies w B sz A xs) (hB : B ≤ B') : Lies w B' sz A xs := by
  intro hne
  obtain ⟨b, off, e, hb, hc⟩ := h hne
  exact ⟨b, off, e, Nat.lt_of_lt_of_le hb hB, hc⟩

/-- The worlds that are w below B. -/
structure ExtW (B : Nat) (w : World) where
  val : World
  below : Below B w val

instance (B : Nat) (w : World) : Nonempty (ExtW B w) := ⟨⟨w, Below.refl _ _⟩⟩
theorem ExtW.cell {B : Nat} {w : World} (x : ExtW B w) (p : Addr) (h : p.block < B) : x.val.cell? p = w.cell? p := x.below.cell h

/-- A region that draws its order, whose operations read below B alone and whose callees leave what lies below B: one walk of the text's order. -/
theorem wp_region_ext {P : Program} {id : Nat} {Q : Exit → Act → World → Prop} {a : Act} {w : World} {l : List Oper} (B : Nat) (hm : P.follows .mixedOrders = true) (hB : Region.lexB .any l.toArray = true)
    (h : wpQuiet P l.toArray (fun w' => ∃ x : ExtW B w, w' = x.val) (fun a' => ∀ w', (∃ x : ExtW B w, w' = x.val) → Q .normal a' w') l a) : (Code.region id l.toArray true).wp P Q a w :=
  wp_region_quiet (C := fun w' => ∃ x : ExtW B w, w' = x.val) hm hB ⟨⟨w.drew, (Below.refl _ _).drew⟩, rfl⟩ (by simpa using h)

/-- A callee's contract, met at such a world. -/
theorem Calls.ext_of {P : Program} {f : FuncId} {args : Array Value} {w : World} {B : Nat} {x : ExtW B w} {v : Value}
    (h : Calls P f args x.val fun e w' => e = .returned v ∧ Below x.val.heap.size x.val w') (hB : B ≤ w.heap.size) : Calls P f args x.val fun e w'' => e = .returned v ∧ ∃ y : ExtW B w, w'' = y.val :=
  h.mono fun _ w' ⟨he, hm⟩ => ⟨he, ⟨w', x.below.trans (hm.mono (Nat.le_trans hB x.below.size))⟩, rfl⟩

def Rc.Att.row (a : Rc.Att) : List Value := [.int .i64 a.s, .int .i64 a.f, .int .i64 a.cs, .int .i64 a.co, .int .i64 a.cf, .int .i64 a.ct, .int .i64 a.cl, .int .i64 a.o]
def Rc.Dlv.row (d : Rc.Dlv) : List Value := [.int .i64 d.fl, .int .i64 d.fr, .int .i64 d.sl]

def LiesA (w : World) (B : Nat) (A : Option Addr) (l : List Rc.Att) : Prop := Lies w B 8 A (l.map Rc.Att.row)
def LiesD (w : World) (B : Nat) (A : Option Addr) (l : List Rc.Dlv) : Prop := Lies w B 3 A (l.map Rc.Dlv.row)

theorem LiesA.below {w w' : World} {B : Nat} {A : Option Addr} {l : List Rc.Att} (h : LiesA w B A l) (hb : Below B w w') : LiesA w' B A l := Lies.below h hb
theorem LiesD.below {w w' : World} {B : Nat} {A : Option Addr} {l : List Rc.Dlv} (h : LiesD w B A l) (hb : Below B w w') : LiesD w' B A l := Lies.below h hb
theorem LiesA.below_le {w w' : World} {B B' : Nat} {A : Option Addr} {l : List Rc.Att} (h : LiesA w B A l) (hb : Below B' w w') (hB : B ≤ B') : LiesA w' B A l := Lies.below_le h hb hB
theorem LiesD.below_le {w w' : World} {B B' : Nat} {A : Option Addr} {l : List Rc.Dlv} (h : LiesD w B A l) (hb : Below B' w w') (hB : B ≤ B') : LiesD w' B A l := Lies.below_le h hb hB
theorem LiesA.more {w : World} {B B' : Nat} {A : Option Addr} {l : List Rc.Att} (h : LiesA w B A l) (hB : B ≤ B') : LiesA w B' A l := Lies.more h hB
theorem LiesD.more {w : World} {B B' : Nat} {A : Option Addr} {l : List Rc.Dlv} (h : LiesD w B A l) (hB : B ≤ B') : LiesD w B' A l := Lies.more h hB
theorem LiesA.at_ {w : World} {B : Nat} {A : Option Addr} {l : List Rc.Att} (h : LiesA w B A l) {k : Nat} {a : Rc.Att} (ha : l[k]? = some a) :
    ∃ b off, A = some ⟨b, off, none⟩ ∧ b < B ∧ ∀ k a, l[k]? = some a → w.cell? ⟨b, off + k * 8, none⟩ = some (.int .i64 a.s) ∧ w.cell? ⟨b, off + k * 8 + 1, none⟩ = some (.int .i64 a.f) ∧ w.cell? ⟨b, off + k * 8 + 2, none⟩ = some (.int .i64 a.cs) ∧
      w.cell? ⟨b, off + k * 8 + 3, none⟩ = some (.int .i64 a.co) ∧ w.cell? ⟨b, off + k * 8 + 4, none⟩ = some (.int .i64 a.cf) ∧ w.cell? ⟨b, off + k * 8 + 5, none⟩ = some (.int .i64 a.ct) ∧
      w.cell? ⟨b, off + k * 8 + 6, none⟩ = some (.int .i64 a.cl) ∧ w.cell? ⟨b, off + k * 8 + 7, none⟩ = some (.int .i64 a.o) := by
  have hne : l.map Rc.Att.row ≠ [] := by
    intro h0
    have : l = [] := by simpa using h0
    subst this
    simp at ha
  obtain ⟨b, off, e, hb, hc⟩ := h hne
  refine ⟨b, off, e, hb, fun k a ha => ?_⟩
  have hr : (l.map Rc.Att.row)[k]? = some a.row := by simp [ha]
  exact ⟨hc k _ hr 0 _ rfl, hc k _ hr 1 _ rfl, hc k _ hr 2 _ rfl, hc k _ hr 3 _ rfl, hc k _ hr 4 _ rfl, hc k _ hr 5 _ rfl, hc k _ hr 6 _ rfl, hc k _ hr 7 _ rfl⟩

theorem LiesD.at_ {w : World} {B : Nat} {A : Option Addr} {l : List Rc.Dlv} (h : LiesD w B A l) {k : Nat} {a : Rc.Dlv} (ha : l[k]? = some a) :
    ∃ b off, A = some ⟨b, off, none⟩ ∧ b < B ∧ ∀ k a, l[k]? = some a → w.cell? ⟨b, off + k * 3, none⟩ = some (.int .i64 a.fl) ∧ w.cell? ⟨b, off + k * 3 + 1, none⟩ = some (.int .i64 a.fr) ∧ w.cell? ⟨b, off + k * 3 + 2, none⟩ = some (.int .i64 a.sl) := by
  have hne : l.map Rc.Dlv.row ≠ [] := by
    intro h0
    have : l = [] := by simpa using h0
    subst this
    simp at ha
  obtain ⟨b, off, e, hb, hc⟩ := h hne
  refine ⟨b, off, e, hb, fun k a ha => ?_⟩
  have hr : (l.map Rc.Dlv.row)[k]? = some a.row := by simp [ha]
  exact ⟨hc k _ hr 0 _ rfl, hc k _ hr 1 _ rfl, hc k _ hr 2 _ rfl⟩

theorem drop_of_get {α : Type} {l : List α} {k : Nat} {a : α} (h : l[k]? = some a) : l.drop k = a :: l.drop (k + 1) := by
  have hk : k < l.length := (List.getElem?_eq_some_iff.1 h).1
  rw [List.drop_eq_getElem_cons hk]
  have := (List.getElem?_eq_some_iff.1 h).2
  rw [this]

theorem get_of_lt {α : Type} {l : List α} {k : Nat} (h : k < l.length) : ∃ a, l[k]? = some a := ⟨l[k], List.getElem?_eq_getElem h⟩

theorem ints_get {l : List Int} {k : Nat} {x : Int} (h : l[k]? = some x) : (l.map (Value.int .i64))[k]? = some (.int .i64 x) := by rw [List.getElem?_map, h]; rfl
theorem ret_bool {a b : Bool} (h : a = b) : Ending.returned (.bool a) = .returned (.bool b) := by rw [h]
theorem ret_int {k : IntKind} {a b : Int} (h : a = b) : Ending.returned (.int k a) = .returned (.int k b) := by rw [h]

end Go.Proofs.YtaafmckdmeikjaaDoor
