import Derived.WalkKit
import Derived.WalkLawsBesides
import Derived.KernelRfl
import Derived.Outline
import Derived.LoopTactic
import Derived.Deep.QuietTactic
import Derived.BigQuiet
import Derived.Deep.DeepFit
import Derived.Lib.Hide
import Derived.StillTail
import Derived.Deep.RegionHeld3
import Derived.Deep.MidRow
import Derived.Laws.AppendOwn
import Derived.Laws.OwnMore
import Derived.Laws.Entries
import Derived.Laws.Small
import Derived.Laws.Strings
import Derived.Laws.Concat
import Derived.Laws.Build
import Derived.Laws.Slices
import Derived.Laws.Strings2
import Derived.Laws.IdiomCopy
import Derived.Laws.StructEq
import Derived.Deep.LoopGhost
set_option linter.unusedVariables false
set_option linter.unusedSimpArgs false
set_option maxHeartbeats 4000000
/- The plain functions that the record's Go functions compute: no Go in sight. -/
namespace Go.Proofs.YtcloigoajohppaaGreatDoor
namespace Rc

structure Att where
  s : Int
  f : Int
  cs : Int
  co : Int
  cf : Int
  ct : Int
  cl : Int
  o : Int

structure Dlv where
  fl : Int
  fr : Int
  sl : Int

structure Rec where
  slots : Int
  al : List Att
  dl : List Dlv

instance : Inhabited Att := ⟨⟨0, 0, 0, 0, 0, 0, 0, 0⟩⟩
instance : Inhabited Dlv := ⟨⟨0, 0, 0⟩⟩

theorem Att.ext_iff' (a b : Att) : a = b ↔ (a.s = b.s ∧ a.f = b.f ∧ a.cs = b.cs ∧ a.co = b.co ∧ a.cf = b.cf ∧ a.ct = b.ct ∧ a.cl = b.cl ∧ a.o = b.o) := by
  cases a; cases b; simp
theorem Dlv.ext_iff' (a b : Dlv) : a = b ↔ (a.fl = b.fl ∧ a.fr = b.fr ∧ a.sl = b.sl) := by
  cases a; cases b; simp
instance : DecidableEq Att := fun a b => decidable_of_iff _ (Att.ext_iff' a b).symm
instance : DecidableEq Dlv := fun a b => decidable_of_iff _ (Dlv.ext_iff' a b).symm
theorem Rec.ext_iff' (a b : Rec) : a = b ↔ (a.slots = b.slots ∧ a.al = b.al ∧ a.dl = b.dl) := by
  cases a; cases b; simp
instance : DecidableEq Rec := fun a b => decidable_of_iff _ (Rec.ext_iff' a b).symm

end Rc
end Go.Proofs.YtcloigoajohppaaGreatDoor
/- Words for memory: slices that read as lists of rows of cells; a family of later worlds for regions that draw their order. Generic: no program's numbers. -/
namespace Go.Proofs.YtcloigoajohppaaGreatDoor
open Go.RowKit

def Lies (w : World) (B sz : Nat) (A : Option Addr) (xs : List (List Value)) : Prop :=
  xs ≠ [] → ∃ b off, A = some ⟨b, off, none⟩ ∧ b < B ∧ ∀ k row, xs[k]? = some row → ∀ j u, row[j]? = some u → w.cell? ⟨b, off + k * sz + j, none⟩ = some u

theorem Lies.nil (w : World) (B sz : Nat) (A : Option Addr) : Lies w B sz A [] := fun h => absurd rfl h
theorem Lies.keep {w w' : World} {B sz : Nat} {A : Option Addr} {xs : List (List Value)} (h : Lies w B sz A xs) (hk : ∀ p : Addr, p.block < B → w'.cell? p = w.cell? p) : Lies w' B sz A xs := by
  intro hne
  obtain ⟨b, off, e, hb, hc⟩ := h hne
  exact ⟨b, off, e, hb, fun k row hr j u hu => (hk _ hb).trans (hc k row hr j u hu)⟩
theorem Lies.below {w w' : World} {B sz : Nat} {A : Option Addr} {xs : List (List Value)} (h : Lies w B sz A xs) (hb : Below B w w') : Lies w' B sz A xs :=
  h.keep fun _ hp => hb.cell hp
theorem Lies.more {w : World} {B B' sz : Nat} {A : Option Addr} {xs : List (List Value)} (h : Lies w B sz A xs) (hB : B ≤ B') : Lies w B' sz A xs := by
  intro hne
  obtain ⟨b, off, e, hb, hc⟩ := h hne
  exact ⟨b, off, e, Nat.lt_of_lt_of_le hb hB, hc⟩

structure ExtW (B : Nat) (w : World) where
  val : World
  below : Below B w val

instance (B : Nat) (w : World) : Nonempty (ExtW B w) := ⟨⟨w, Below.refl _ _⟩⟩
theorem ExtW.cell {B : Nat} {w : World} (x : ExtW B w) (p : Addr) (h : p.block < B) : x.val.cell? p = w.cell? p := x.below.cell h

def Rc.Att.row (a : Rc.Att) : List Value := [.int .i64 a.s, .int .i64 a.f, .int .i64 a.cs, .int .i64 a.co, .int .i64 a.cf, .int .i64 a.ct, .int .i64 a.cl, .int .i64 a.o]
def Rc.Dlv.row (d : Rc.Dlv) : List Value := [.int .i64 d.fl, .int .i64 d.fr, .int .i64 d.sl]

def LiesA (w : World) (B : Nat) (A : Option Addr) (l : List Rc.Att) : Prop := Lies w B 8 A (l.map Rc.Att.row)
def LiesD (w : World) (B : Nat) (A : Option Addr) (l : List Rc.Dlv) : Prop := Lies w B 3 A (l.map Rc.Dlv.row)

theorem LiesA.below {w w' : World} {B : Nat} {A : Option Addr} {l : List Rc.Att} (h : LiesA w B A l) (hb : Below B w w') : LiesA w' B A l := Lies.below h hb
theorem LiesD.below {w w' : World} {B : Nat} {A : Option Addr} {l : List Rc.Dlv} (h : LiesD w B A l) (hb : Below B w w') : LiesD w' B A l := Lies.below h hb
theorem LiesA.more {w : World} {B B' : Nat} {A : Option Addr} {l : List Rc.Att} (h : LiesA w B A l) (hB : B ≤ B') : LiesA w B' A l := Lies.more h hB
theorem LiesD.more {w : World} {B B' : Nat} {A : Option Addr} {l : List Rc.Dlv} (h : LiesD w B A l) (hB : B ≤ B') : LiesD w B' A l := Lies.more h hB
theorem LiesA.at_ {w : World} {B : Nat} {A : Option Addr} {l : List Rc.Att} (h : LiesA w B A l) {k : Nat} {a : Rc.Att} (ha : l[k]? = some a) :
    ∃ b off, A = some ⟨b, off, none⟩ ∧ b < B ∧ ∀ k a, l[k]? = some a → w.cell? ⟨b, off + k * 8, none⟩ = some (.int .i64 a.s) ∧ w.cell? ⟨b, off + k * 8 + 1, none⟩ = some (.int .i64 a.f) ∧ w.cell? ⟨b, off + k * 8 + 2, none⟩ = some (.int .i64 a.cs) ∧
      w.cell? ⟨b, off + k * 8 + 3, none⟩ = some (.int .i64 a.co) ∧ w.cell? ⟨b, off + k * 8 + 4, none⟩ = some (.int .i64 a.cf) ∧ w.cell? ⟨b, off + k * 8 + 5, none⟩ = some (.int .i64 a.ct) ∧
      w.cell? ⟨b, off + k * 8 + 6, none⟩ = some (.int .i64 a.cl) ∧ w.cell? ⟨b, off + k * 8 + 7, none⟩ = some (.int .i64 a.o) := by
  have hne : l.map Rc.Att.row ≠ [] := by
    intro h0
    have : l = [] := by simpa using h0
    subst this
    simp at ha
  obtain ⟨b, off, e, hb, hc⟩ := h hne
  refine ⟨b, off, e, hb, fun k a ha => ?_⟩
  have hr : (l.map Rc.Att.row)[k]? = some a.row := by simp [ha]
  exact ⟨hc k _ hr 0 _ rfl, hc k _ hr 1 _ rfl, hc k _ hr 2 _ rfl, hc k _ hr 3 _ rfl, hc k _ hr 4 _ rfl, hc k _ hr 5 _ rfl, hc k _ hr 6 _ rfl, hc k _ hr 7 _ rfl⟩

theorem LiesD.at_ {w : World} {B : Nat} {A : Option Addr} {l : List Rc.Dlv} (h : LiesD w B A l) {k : Nat} {a : Rc.Dlv} (ha : l[k]? = some a) :
    ∃ b off, A = some ⟨b, off, none⟩ ∧ b < B ∧ ∀ k a, l[k]? = some a → w.cell? ⟨b, off + k * 3, none⟩ = some (.int .i64 a.fl) ∧ w.cell? ⟨b, off + k * 3 + 1, none⟩ = some (.int .i64 a.fr) ∧ w.cell? ⟨b, off + k * 3 + 2, none⟩ = some (.int .i64 a.sl) := by
  have hne : l.map Rc.Dlv.row ≠ [] := by
    intro h0
    have : l = [] := by simpa using h0
    subst this
    simp at ha
  obtain ⟨b, off, e, hb, hc⟩ := h hne
  refine ⟨b, off, e, hb, fun k a ha => ?_⟩
  have hr : (l.map Rc.Dlv.row)[k]? = some a.row := by simp [ha]
  exact ⟨hc k _ hr 0 _ rfl, hc k _ hr 1 _ rfl, hc k _ hr 2 _ rfl⟩

theorem drop_of_get {α : Type} {l : List α} {k : Nat} {a : α} (h : l[k]? = some a) : l.drop k = a :: l.drop (k + 1) := by
  have hk : k < l.length := (List.getElem?_eq_some_iff.1 h).1
  rw [List.drop_eq_getElem_cons hk]
  have := (List.getElem?_eq_some_iff.1 h).2
  rw [this]

theorem get_of_lt {α : Type} {l : List α} {k : Nat} (h : k < l.length) : ∃ a, l[k]? = some a := ⟨l[k], List.getElem?_eq_getElem h⟩

end Go.Proofs.YtcloigoajohppaaGreatDoor
/- A region that draws its order: first operations that are quiet in a class of worlds (reads, sums, calls whose answer hangs on nothing but the class), then a tail in one forced order that begins only when all of them are done. Generic. After the kit's Still, StillTail and Quiet, with a class of worlds in the place of one world. -/
namespace Go.Proofs.YtcloigoajohppaaGreatDoor
open Go.RowKit

section
variable {P : Program} {ops : Array Oper} {md : Region.Mode} {C : World → Prop}

def Row (w : World) (b : Nat) (cs : List Value) : Prop := ∀ i : Nat, w.cell? ⟨b, i, none⟩ = cs[i]?
theorem Row.below {w w' : World} {b B : Nat} {cs : List Value} (h : Row w b cs) (hb : Below B w w') (hB : b < B) : Row w' b cs := fun i => (hb.cell (p := ⟨b, i, none⟩) hB).trans (h i)
theorem Row.new (w : World) (cs : List Value) (t : TypeId) : Row (w.alloc (.cells cs.toArray t)) w.heap.size cs := fun i => by
  have h : (w.alloc (.cells cs.toArray t)).heap[w.heap.size]? = some (.cells cs.toArray t) := heap_alloc_new w _
  unfold World.cell?
  rw [show (⟨w.heap.size, i, none⟩ : Addr).block = w.heap.size from rfl, h]
  simp
theorem Row.alloc {w : World} {b : Nat} {cs : List Value} (h : Row w b cs) (hb : b < w.heap.size) (o : Obj) : Row (w.alloc o) b cs := fun i => (World.cell?_alloc_lt w o ⟨b, i, none⟩ hb).trans (h i)
theorem Row.ext {w : World} {b B : Nat} {cs : List Value} (h : Row w b cs) (hB : b < B) : ∀ (x : ExtW B w) (i : Nat), x.val.cell? ⟨b, i, none⟩ = cs[i]? := fun x i => (x.cell _ hB).trans (h i)

end
end Go.Proofs.YtcloigoajohppaaGreatDoor
/- A region that draws its order, walked by steps: a plain read or sum that is quiet in every world that is as this one below B may be taken first; an operation that stands alone is carried out; where several stand, each of them. Every step leaves what lies below B. Generic. -/
namespace Go.Proofs.YtcloigoajohppaaGreatDoor
open Go.RowKit

section
variable {P : Program} {ops : Array Oper} {Q : Exit → Act → World → Prop}

def YieldsB (P : Program) (ops : Array Oper) (B : Nat) (o : Oper) (v : Value) (a : Act) (w : World) : Prop :=
  (Region.wanted o (yielded ops a.tmps) = true ∧ ∀ w', Below B w w' → (execOp a.eval o).run P w' = .ok (.value v) w') ∨ (Region.wanted o (yielded ops a.tmps) = false ∧ v = undef)

theorem YieldsB.wpOp {B i : Nat} {o : Oper} {v : Value} {a : Act} {w : World} (hi : ops[i]? = some o) (hy : YieldsB P ops B o v a w) {K : Act → World → Prop} (h : K (a.put o.dst v) w) : wpOp P ops Q i K a w := by
  unfold Go.wpOp
  simp only [hi]
  rcases hy with ⟨hw, hv⟩ | ⟨hw, rfl⟩
  · simp only [hw, if_true, Oper.wp, hv w (Below.refl _ _), Oper.upon]; exact .inl h
  · simp only [hw, Bool.false_eq_true, if_false]; exact h

theorem YieldsB.of_same {B : Nat} {o : Oper} {v : Value} {a a' : Act} {w w' : World} (hy : YieldsB P ops B o v a w) (he : execOp a'.eval o = execOp a.eval o)
    (hw : Region.wanted o (yielded ops a'.tmps) = Region.wanted o (yielded ops a.tmps)) (hb : Below B w w') : YieldsB P ops B o v a' w' := by
  rcases hy with ⟨h1, h2⟩ | ⟨h1, h2⟩
  · exact .inl ⟨by rw [hw]; exact h1, fun w'' hb' => by rw [he]; exact h2 w'' (hb.trans hb')⟩
  · exact .inr ⟨by rw [hw]; exact h1, h2⟩

end
end Go.Proofs.YtcloigoajohppaaGreatDoor
/- Abstract states for walks: data as trees of rows, boxes of the frame by name, rows that the frame owns; what it says of the machine's memory. Generic: no program's numbers. -/
namespace Go.Proofs.YtcloigoajohppaaGreatDoor
open Go.RowKit
namespace Av

inductive PV where
  | v (x : Value)
  | sl (sz : Nat) (rows : List (List PV))
instance : Inhabited PV := ⟨.v undef⟩
inductive CV where
  | c (x : PV)
  | g (xs : List PV)
inductive AV where
  | v (x : Value)
  | sl (sz : Nat) (rows : List (List PV))
  | agg (xs : List PV)
  | tup (vs : List CV)
  | ref (k off : Nat)
  | ept (row : List PV)
  | clo (f : Nat) (caps : List (Nat × Nat))
  | fnv (f : Nat) (caps : List (List PV))
def PV.av : PV → AV
  | .v x => .v x
  | .sl sz rows => .sl sz rows
def CV.av : CV → AV
  | .c x => x.av
  | .g xs => .agg xs

abbrev Reader := Addr → Option Value

inductive RepP (R : Reader) : PV → Value → Prop
  | v (x : Value) (h : x.oneCell' = true) : RepP R (.v x) x
  | sl (sz : Nat) (rows : List (List PV)) (A : Option Addr) (cap : Nat) (f : Nat → Nat → Value) (hsz : ∀ (k : Nat) (row : List PV), rows[k]? = some row → row.length = sz)
      (hA : rows = [] ∨ ∃ b off, A = some ⟨b, off, none⟩ ∧ ∀ (k : Nat) (row : List PV) (j : Nat) (p : PV), rows[k]? = some row → row[j]? = some p → R ⟨b, off + k * sz + j, none⟩ = some (f k j))
      (hf : ∀ (k : Nat) (row : List PV) (j : Nat) (p : PV), rows[k]? = some row → row[j]? = some p → RepP R p (f k j)) (hc : rows.length ≤ cap) : RepP R (.sl sz rows) (.slice A rows.length cap)
theorem RepP.one {R : Reader} {p : PV} {u : Value} (h : RepP R p u) : u.oneCell' = true := by
  cases h with
  | v _ h => exact h
  | sl => rfl
theorem RepP.mono {R R' : Reader} (hR : ∀ p v, R p = some v → R' p = some v) {p : PV} {u : Value} (h : RepP R p u) : RepP R' p u := by
  induction h with
  | v x h => exact .v x h
  | sl sz rows A cap f hsz hA hf hc ih =>
    refine .sl sz rows A cap f hsz ?_ ih hc
    rcases hA with h | ⟨b, off, e, h⟩
    · exact .inl h
    · exact .inr ⟨b, off, e, fun k row j p h1 h2 => hR _ _ (h k row j p h1 h2)⟩

inductive RepL (R : Reader) : List PV → List Value → Prop
  | nil : RepL R [] []
  | cons {p : PV} {u : Value} {ps : List PV} {us : List Value} (h : RepP R p u) (t : RepL R ps us) : RepL R (p :: ps) (u :: us)
theorem RepL.mono {R R' : Reader} (hR : ∀ p v, R p = some v → R' p = some v) {ps : List PV} {us : List Value} (h : RepL R ps us) : RepL R' ps us := by
  induction h with
  | nil => exact .nil
  | cons h _ ih => exact .cons (h.mono hR) ih
theorem RepL.length {R : Reader} {ps : List PV} {us : List Value} (h : RepL R ps us) : us.length = ps.length := by
  induction h with
  | nil => rfl
  | cons _ _ ih => simp [ih]
theorem RepL.get {R : Reader} {ps : List PV} {us : List Value} (h : RepL R ps us) : ∀ {i : Nat} {p : PV}, ps[i]? = some p → ∃ u, us[i]? = some u ∧ RepP R p u := by
  induction h with
  | nil => intro i p hp; simp at hp
  | cons h _ ih =>
    intro i p hp
    cases i with
    | zero => simp at hp; subst hp; exact ⟨_, rfl, h⟩
    | succ i => simpa using ih (by simpa using hp)
theorem RepL.of {R : Reader} : ∀ {ps : List PV} {us : List Value}, ps.length = us.length → (∀ (i : Nat) (p : PV) (u : Value), ps[i]? = some p → us[i]? = some u → RepP R p u) → RepL R ps us
  | [], [], _, _ => .nil
  | p :: ps, u :: us, hl, h => .cons (h 0 p u rfl rfl) (RepL.of (by simpa using hl) fun i q v h1 h2 => h (i + 1) q v (by simpa using h1) (by simpa using h2))
theorem RepL.drop {R : Reader} {ps : List PV} {us : List Value} (h : RepL R ps us) (n : Nat) : RepL R (ps.drop n) (us.drop n) := by
  induction h generalizing n with
  | nil => simp; exact .nil
  | cons h t ih => cases n with
    | zero => exact .cons h t
    | succ n => simpa using ih n
theorem RepL.take {R : Reader} {ps : List PV} {us : List Value} (h : RepL R ps us) (n : Nat) : RepL R (ps.take n) (us.take n) := by
  induction h generalizing n with
  | nil => simp; exact .nil
  | cons h t ih => cases n with
    | zero => simp; exact .nil
    | succ n => simpa using .cons h (ih n)
theorem RepL.append {R : Reader} {ps qs : List PV} {us vs : List Value} (h : RepL R ps us) (h' : RepL R qs vs) : RepL R (ps ++ qs) (us ++ vs) := by
  induction h with
  | nil => exact h'
  | cons h _ ih => exact .cons h ih
theorem RepL.one {R : Reader} {ps : List PV} {us : List Value} (h : RepL R ps us) : ∀ u ∈ us, u.oneCell' = true := by
  induction h with
  | nil => intro u hu; cases hu
  | cons h _ ih =>
    intro u hu
    rcases List.mem_cons.1 hu with rfl | hu
    · exact h.one
    · exact ih u hu
theorem RepL.set {R : Reader} {ps : List PV} {us : List Value} (h : RepL R ps us) {p : PV} {u : Value} (hp : RepP R p u) (i : Nat) : RepL R (ps.set i p) (us.set i u) := by
  induction h generalizing i with
  | nil => simp; exact .nil
  | cons h t ih => cases i with
    | zero => exact .cons hp t
    | succ i => exact .cons h (ih i)

inductive RepC (R : Reader) : CV → Value → Prop
  | c {p : PV} {u : Value} (h : RepP R p u) : RepC R (.c p) u
  | g {ps : List PV} {us : List Value} (h : RepL R ps us) : RepC R (.g ps) (.agg us.toArray)
inductive RepCL (R : Reader) : List CV → List Value → Prop
  | nil : RepCL R [] []
  | cons {p : CV} {u : Value} {ps : List CV} {us : List Value} (h : RepC R p u) (t : RepCL R ps us) : RepCL R (p :: ps) (u :: us)
def RepE (R : Reader) (row : List PV) (u : Value) : Prop :=
  ∃ b off us, u = .pointer (some ⟨b, off, none⟩) ∧ RepL R row us ∧ ∀ (i : Nat) (x : Value), us[i]? = some x → R ⟨b, off + i, none⟩ = some x
inductive RepEL (R : Reader) : List (List PV) → List Value → Prop
  | nil : RepEL R [] []
  | cons {p : List PV} {u : Value} {ps : List (List PV)} {us : List Value} (h : RepE R p u) (t : RepEL R ps us) : RepEL R (p :: ps) (u :: us)
def RepA (R : Reader) (bx : Nat → Nat) : AV → Value → Prop
  | .v x, u => u = x
  | .sl sz rows, u => RepP R (.sl sz rows) u
  | .agg xs, u => ∃ us, u = .agg us.toArray ∧ RepL R xs us
  | .tup vs, u => ∃ us, u = .tuple us.toArray ∧ RepCL R vs us
  | .ref k off, u => u = .pointer (some ⟨bx k, off, none⟩)
  | .ept row, u => RepE R row u
  | .clo f caps, u => u = .func (.func f) #[] (caps.map fun c => Value.pointer (some ⟨bx c.1, c.2, none⟩)).toArray
  | .fnv f caps, u => ∃ us, u = .func (.func f) #[] us.toArray ∧ RepEL R caps us
theorem RepC.mono {R R' : Reader} (hR : ∀ p v, R p = some v → R' p = some v) {p : CV} {u : Value} (h : RepC R p u) : RepC R' p u := by
  cases h with
  | c h => exact .c (h.mono hR)
  | g h => exact .g (h.mono hR)
theorem RepCL.mono {R R' : Reader} (hR : ∀ p v, R p = some v → R' p = some v) {ps : List CV} {us : List Value} (h : RepCL R ps us) : RepCL R' ps us := by
  induction h with
  | nil => exact .nil
  | cons h _ ih => exact .cons (h.mono hR) ih
theorem RepE.mono {R R' : Reader} (hR : ∀ p v, R p = some v → R' p = some v) {row : List PV} {u : Value} (h : RepE R row u) : RepE R' row u := by
  obtain ⟨b, off, us, e, h1, h2⟩ := h
  exact ⟨b, off, us, e, h1.mono hR, fun i x hx => hR _ _ (h2 i x hx)⟩
theorem RepEL.mono {R R' : Reader} (hR : ∀ p v, R p = some v → R' p = some v) {ps : List (List PV)} {us : List Value} (h : RepEL R ps us) : RepEL R' ps us := by
  induction h with
  | nil => exact .nil
  | cons h _ ih => exact .cons (h.mono hR) ih
theorem RepP.av {R : Reader} {bx : Nat → Nat} {p : PV} {u : Value} (h : RepP R p u) : RepA R bx p.av u := by
  cases h with
  | v => rfl
  | sl sz rows A cap f hsz hA hf hc => exact RepP.sl sz rows A cap f hsz hA hf hc
theorem RepC.av {R : Reader} {bx : Nat → Nat} {p : CV} {u : Value} (h : RepC R p u) : RepA R bx p.av u := by
  cases h with
  | c h => exact h.av
  | g h => exact ⟨_, rfl, h⟩
def AV.refs : AV → List Nat
  | .ref k _ => [k]
  | .clo _ caps => caps.map Prod.fst
  | _ => []
theorem RepA.mono {R R' : Reader} (hR : ∀ p v, R p = some v → R' p = some v) {bx bx' : Nat → Nat} {x : AV} {u : Value} (hb : ∀ k ∈ x.refs, bx' k = bx k) (h : RepA R bx x u) : RepA R' bx' x u := by
  cases x with
  | v x => exact h
  | sl sz rows => exact RepP.mono hR h
  | agg xs => obtain ⟨us, e, h⟩ := h; exact ⟨us, e, h.mono hR⟩
  | tup vs => obtain ⟨us, e, h⟩ := h; exact ⟨us, e, h.mono hR⟩
  | ref k off => show u = _; rw [hb k (by simp [AV.refs])]; exact h
  | ept row => exact RepE.mono hR h
  | clo f caps =>
    show u = _
    rw [show u = _ from h]
    congr 2
    refine List.map_congr_left fun c hc => ?_
    rw [hb c.1 (List.mem_map_of_mem hc)]
  | fnv f caps => obtain ⟨us, e, h⟩ := h; exact ⟨us, e, h.mono hR⟩

inductive Loc where
  | s (t : Nat)
  | b (k off : Nat)
deriving DecidableEq

def look {α : Type} : List (Nat × α) → Nat → Option α
  | [], _ => none
  | (k, x) :: l, t => if k = t then some x else look l t
def lookL {α : Type} : List (Loc × α) → Loc → Option α
  | [], _ => none
  | (k, x) :: l, t => if k = t then some x else lookL l t
structure Ext where
  foot : Nat → Prop
  froz : Nat → Prop
  holds : World → Prop
  stable : ∀ {w w' : World}, (∀ b, foot b ∨ froz b → w'.heap[b]? = w.heap[b]?) → holds w → holds w'
  laid : World → Prop := fun _ => True
  reads : Reader → Prop := fun _ => True
  rmono : ∀ {R R' : Reader}, (∀ p v, R p = some v → R' p = some v) → reads R → reads R' := by intros; trivial
  veil : Addr → Prop := fun _ => False
  veilz : ∀ p, veil p → froz p.block := by intro p h; exact h.elim
theorem Ext.mutb (E : Ext) {p : Addr} (h : E.foot p.block ∨ E.veil p) : E.foot p.block ∨ E.froz p.block := h.imp id (E.veilz p)
def Ext.nil : Ext where
  foot := fun _ => False
  froz := fun _ => False
  holds := fun _ => True
  stable := fun _ _ => trivial
structure St where
  slot : List (Nat × AV)
  box : List (Nat × List PV)
  own : List (Loc × (TypeId × Nat))
  ext : Ext
def St.avAt (σ : St) : Loc → Option AV
  | .s t => look σ.slot t
  | .b k off => ((look σ.box k).bind (·[off]?)).map PV.av
structure Gh where
  bx : Nat → Nat
  rw : Loc → Option Nat
def St.mut (σ : St) (γ : Gh) (p : Addr) : Prop :=
  (∃ k cs, look σ.box k = some cs ∧ p.block = γ.bx k) ∨
  (∃ L e sz rows, lookL σ.own L = some (e, sz) ∧ σ.avAt L = some (.sl sz rows) ∧ γ.rw L = some p.block ∧ rows.length * sz ≤ p.off) ∨ (σ.ext.foot p.block ∨ σ.ext.veil p)
open Classical in
noncomputable def rdr (R0 : Reader) (B : Nat) (σ : St) (γ : Gh) (w : World) : Reader := fun p =>
  if p.block < B then R0 p else if σ.mut γ p then none else w.cell? p
def valAt (a : Act) (w : World) (γ : Gh) : Loc → Option Value
  | .s t => some (a.tmps.getD t undef)
  | .b k off => w.cell? ⟨γ.bx k, off, none⟩
def OwnV (w : World) (B : Nat) (e : TypeId) (sz n : Nat) (v : Value) : Option Nat → Prop
  | none => v = .slice none 0 0 ∧ n = 0
  | some g => ∃ cap cur, v = .slice (some ⟨g, 0, none⟩) n cap ∧ B ≤ g ∧ w.heap[g]? = some (.cells cur e (0, 0)) ∧ n ≤ cap ∧ cap ≤ maxLen ∧ cur.size = cap * sz
structure Fr where
  R0 : Reader
  w0 : World
  n : Nat
structure Rel (F : Fr) (σ : St) (γ : Gh) (a : Act) (w : World) : Prop where
  defers : a.defers = []
  size : a.tmps.size = F.n
  below : Below F.w0.heap.size F.w0 w
  r0 : ∀ p v, F.R0 p = some v → F.w0.cell? p = some v
  slots : ∀ t x, look σ.slot t = some x → RepA (rdr F.R0 F.w0.heap.size σ γ w) γ.bx x (a.tmps.getD t undef) ∧ ∀ k ∈ x.refs, (look σ.box k).isSome
  boxes : ∀ k cs, look σ.box k = some cs → ∃ us ty, w.heap[γ.bx k]? = some (.cells us.toArray ty (0, 0)) ∧ F.w0.heap.size ≤ γ.bx k ∧ RepL (rdr F.R0 F.w0.heap.size σ γ w) cs us
  boxinj : ∀ k k', (look σ.box k).isSome → (look σ.box k').isSome → γ.bx k = γ.bx k' → k = k'
  owns : ∀ L e sz, lookL σ.own L = some (e, sz) → ∃ rows v, σ.avAt L = some (.sl sz rows) ∧ valAt a w γ L = some v ∧ OwnV w F.w0.heap.size e sz rows.length v (γ.rw L)
  rowinj : ∀ L L' g, (lookL σ.own L).isSome → (lookL σ.own L').isSome → γ.rw L = some g → γ.rw L' = some g → L = L'
  rowbox : ∀ L k g, (lookL σ.own L).isSome → (look σ.box k).isSome → γ.rw L = some g → g ≠ γ.bx k
  exth : σ.ext.holds w
  extf : ∀ b, σ.ext.foot b ∨ σ.ext.froz b → F.w0.heap.size ≤ b ∧ b < w.heap.size ∧ (∀ k, (look σ.box k).isSome → γ.bx k ≠ b) ∧ (∀ L, (lookL σ.own L).isSome → γ.rw L ≠ some b)
  small : F.n ≤ 1000000
  dyn : ∀ k, (look σ.box k).isSome → 1000000 ≤ k → γ.bx k = k - 1000000
  laid : σ.ext.laid F.w0
  extr : σ.ext.reads (rdr F.R0 F.w0.heap.size σ γ w)

end Av
end Go.Proofs.YtcloigoajohppaaGreatDoor
/- Abstract states: how they follow the machine's steps: a slot written, a new box, a store, a row that grows. Generic. -/
namespace Go.Proofs.YtcloigoajohppaaGreatDoor
open Go.RowKit
namespace Av

theorem look_cons {α : Type} (k : Nat) (x : α) (l : List (Nat × α)) (t : Nat) : look ((k, x) :: l) t = if k = t then some x else look l t := rfl
theorem lookL_cons {α : Type} (k : Loc) (x : α) (l : List (Loc × α)) (t : Loc) : lookL ((k, x) :: l) t = if k = t then some x else lookL l t := rfl
def delL {α : Type} (l : List (Loc × α)) (L : Loc) : List (Loc × α) := l.filter fun x => !(x.1 == L)
theorem lookL_del {α : Type} (l : List (Loc × α)) (L L' : Loc) : lookL (delL l L) L' = if L' = L then none else lookL l L' := by
  induction l with
  | nil => simp [delL, lookL]
  | cons x l ih =>
    obtain ⟨k, x⟩ := x
    unfold delL at ih ⊢
    by_cases h : k = L
    · subst h
      rw [List.filter_cons_of_neg (by simp), ih, lookL_cons]
      by_cases h' : L' = k
      · subst h'; simp
      · rw [if_neg h', if_neg h', if_neg (fun e => h' e.symm)]
    · rw [List.filter_cons_of_pos (by simpa using h), lookL_cons, lookL_cons, ih]
      by_cases h' : L' = L
      · subst h'; rw [if_neg h]; simp
      · simp [h']
def St.put (σ : St) (d : Nat) (x : AV) : St := { slot := (d, x) :: σ.slot, box := σ.box, own := delL σ.own (.s d), ext := σ.ext }

theorem rdr_le {R0 : Reader} {B : Nat} {σ σ' : St} {γ γ' : Gh} {w w' : World}
    (h : ∀ p v, B ≤ p.block → ¬ σ.mut γ p → w.cell? p = some v → ¬ σ'.mut γ' p ∧ w'.cell? p = some v) :
    ∀ p v, rdr R0 B σ γ w p = some v → rdr R0 B σ' γ' w' p = some v := by
  intro p v hp
  unfold rdr at hp ⊢
  by_cases hB : p.block < B
  · rw [if_pos hB] at hp ⊢; exact hp
  · rw [if_neg hB] at hp ⊢
    by_cases hm : σ.mut γ p
    · rw [if_pos hm] at hp; cases hp
    · rw [if_neg hm] at hp
      obtain ⟨h1, h2⟩ := h p v (by omega) hm hp
      rw [if_neg h1]; exact h2
theorem avAt_put {σ : St} {d : Nat} {x : AV} {L : Loc} (h : L ≠ .s d) : (σ.put d x).avAt L = σ.avAt L := by
  cases L with
  | s t =>
    have : d ≠ t := fun e => h (by rw [e])
    simp [St.avAt, St.put, look_cons, this]
  | b k off => rfl
theorem own_put {σ : St} {d : Nat} {x : AV} {L : Loc} {e : TypeId × Nat} (h : lookL (σ.put d x).own L = some e) : L ≠ .s d ∧ lookL σ.own L = some e := by
  unfold St.put at h
  dsimp only at h
  rw [lookL_del] at h
  by_cases hL : L = .s d
  · rw [if_pos hL] at h; cases h
  · rw [if_neg hL] at h; exact ⟨hL, h⟩
theorem mut_put {σ : St} {γ : Gh} {d : Nat} {x : AV} {p : Addr} (h : (σ.put d x).mut γ p) : σ.mut γ p := by
  rcases h with h | ⟨L, e, sz, rows, h1, h2, h3⟩ | h
  · exact .inl h
  · obtain ⟨hL, h1⟩ := own_put h1
    exact .inr (.inl ⟨L, e, sz, rows, h1, (avAt_put hL).symm.trans h2, h3⟩)
  · exact .inr (.inr h)
theorem put_le {F : Fr} {σ : St} {γ : Gh} {w : World} {d : Nat} {x : AV} : ∀ p v, rdr F.R0 F.w0.heap.size σ γ w p = some v → rdr F.R0 F.w0.heap.size (σ.put d x) γ w p = some v :=
  rdr_le fun _ _ _ hm hc => ⟨fun h => hm (mut_put h), hc⟩
theorem getD_put {a : Act} {d t : Nat} {u : Value} (hd : d < a.tmps.size) : (a.put (some d) u).tmps.getD t undef = if d = t then u else a.tmps.getD t undef := by
  unfold Act.put
  dsimp only
  by_cases h : d = t
  · subst h
    rw [if_pos rfl]
    simp [Array.getD, hd]
  · rw [if_neg h]
    simp [Array.getD_eq_getD_getElem?, Array.getElem?_setIfInBounds, h]
theorem size_put {a : Act} {d : Option Nat} {u : Value} : (a.put d u).tmps.size = a.tmps.size := by
  cases d <;> simp [Act.put]
theorem defers_put {a : Act} {d : Option Nat} {u : Value} : (a.put d u).defers = a.defers := by
  cases d <;> rfl

theorem Rel.put {F : Fr} {σ : St} {γ : Gh} {a : Act} {w : World} (h : Rel F σ γ a w) {d : Nat} (hd : d < F.n) {x : AV} {u : Value} (hx : RepA (rdr F.R0 F.w0.heap.size σ γ w) γ.bx x u) (hr : ∀ k ∈ x.refs, (look σ.box k).isSome) :
    Rel F (σ.put d x) γ (a.put (some d) u) w := by
  have hd' : d < a.tmps.size := by rw [h.size]; exact hd
  have hval : ∀ L, L ≠ .s d → valAt (a.put (some d) u) w γ L = valAt a w γ L := fun L hL => by
    cases L with
    | s t =>
      have : d ≠ t := fun e => hL (by rw [e])
      simp only [valAt, getD_put hd', if_neg this]
    | b k off => rfl
  refine ⟨by rw [defers_put]; exact h.defers, by rw [size_put]; exact h.size, h.below, h.r0, fun t y hy => ?_, fun k cs hk => ?_, h.boxinj, fun L e sz hL => ?_, fun L L' g hL hL' => ?_, fun L k g hL hk => ?_, h.exth, fun b hb => ?_, h.small, h.dyn, h.laid, σ.ext.rmono put_le h.extr⟩
  · simp only [St.put, look_cons] at hy
    rw [getD_put hd']
    by_cases hdt : d = t
    · rw [if_pos hdt] at hy ⊢
      cases hy
      exact ⟨hx.mono put_le (fun _ _ => rfl), hr⟩
    · rw [if_neg hdt] at hy ⊢
      obtain ⟨h1, h2⟩ := h.slots t y hy
      exact ⟨h1.mono put_le (fun _ _ => rfl), h2⟩
  · obtain ⟨us, ty, h1, h2, h3⟩ := h.boxes k cs hk
    exact ⟨us, ty, h1, h2, h3.mono put_le⟩
  · obtain ⟨hne, hL⟩ := own_put hL
    obtain ⟨rows, v, h1, h2, h3⟩ := h.owns L e sz hL
    exact ⟨rows, v, (avAt_put hne).trans h1, (hval L hne).trans h2, h3⟩
  · obtain ⟨e, he⟩ := Option.isSome_iff_exists.1 hL
    obtain ⟨e', he'⟩ := Option.isSome_iff_exists.1 hL'
    exact h.rowinj L L' g (by rw [(own_put he).2]; rfl) (by rw [(own_put he').2]; rfl)
  · obtain ⟨e, he⟩ := Option.isSome_iff_exists.1 hL
    exact h.rowbox L k g (by rw [(own_put he).2]; rfl) hk
  · obtain ⟨h1, h2, h3, h4⟩ := h.extf b hb
    refine ⟨h1, h2, h3, fun L hL => ?_⟩
    obtain ⟨e, he⟩ := Option.isSome_iff_exists.1 hL
    exact h4 L (by rw [(own_put he).2]; rfl)
theorem Rel.cell_lt {w : World} {p : Addr} {v : Value} (h : w.cell? p = some v) : p.block < w.heap.size := World.block_lt_of_cell? w p h
theorem Rel.base {F : Fr} {σ : St} {γ : Gh} {a : Act} {w : World} (h : Rel F σ γ a w) : F.w0.heap.size ≤ w.heap.size := h.below.size
theorem Rel.box_lt {F : Fr} {σ : St} {γ : Gh} {a : Act} {w : World} (h : Rel F σ γ a w) {k : Nat} (hk : (look σ.box k).isSome) : γ.bx k < w.heap.size ∧ F.w0.heap.size ≤ γ.bx k := by
  obtain ⟨cs, hk⟩ := Option.isSome_iff_exists.1 hk
  obtain ⟨us, ty, h1, h2, _⟩ := h.boxes k cs hk
  exact ⟨(Array.getElem?_eq_some_iff.1 h1).1, h2⟩
theorem OwnV.lt {w : World} {B : Nat} {e : TypeId} {sz n : Nat} {v : Value} {g : Nat} (h : OwnV w B e sz n v (some g)) : B ≤ g ∧ g < w.heap.size := by
  obtain ⟨cap, cur, _, h1, h2, _⟩ := h
  exact ⟨h1, (Array.getElem?_eq_some_iff.1 h2).1⟩
theorem OwnV.keep {w w' : World} {B : Nat} {e : TypeId} {sz n : Nat} {v : Value} {q : Option Nat} (h : OwnV w B e sz n v q) (hb : ∀ g, q = some g → w'.heap[g]? = w.heap[g]?) : OwnV w' B e sz n v q := by
  cases q with
  | none => exact h
  | some g =>
    obtain ⟨cap, cur, h0, h1, h2, h3⟩ := h
    exact ⟨cap, cur, h0, h1, (hb g rfl).trans h2, h3⟩
theorem OwnV.low {w : World} {B B' : Nat} {e : TypeId} {sz n : Nat} {v : Value} {q : Option Nat} (h : OwnV w B e sz n v q) (hB : B' ≤ B) : OwnV w B' e sz n v q := by
  cases q with
  | none => exact h
  | some g =>
    obtain ⟨cap, cur, h0, h1, h2⟩ := h
    exact ⟨cap, cur, h0, Nat.le_trans hB h1, h2⟩
theorem Rel.row_lt {F : Fr} {σ : St} {γ : Gh} {a : Act} {w : World} (h : Rel F σ γ a w) {L : Loc} (hL : (lookL σ.own L).isSome) {g : Nat} (hg : γ.rw L = some g) : g < w.heap.size ∧ F.w0.heap.size ≤ g := by
  obtain ⟨e, he⟩ := Option.isSome_iff_exists.1 hL
  obtain ⟨rows, v, _, _, h3⟩ := h.owns L e.1 e.2 he
  rw [hg] at h3
  exact ⟨h3.lt.2, h3.lt.1⟩
theorem grow_le {F : Fr} {σ : St} {γ : Gh} {w w1 : World} (hb : Below w.heap.size w w1) : ∀ p v, rdr F.R0 F.w0.heap.size σ γ w p = some v → rdr F.R0 F.w0.heap.size σ γ w1 p = some v :=
  rdr_le fun _ _ _ hm hc => ⟨hm, (hb.cell (Rel.cell_lt hc)).trans hc⟩
theorem Rel.grow {F : Fr} {σ : St} {γ : Gh} {a : Act} {w w1 : World} (h : Rel F σ γ a w) (hb : Below w.heap.size w w1) : Rel F σ γ a w1 := by
  refine ⟨h.defers, h.size, h.below.trans (hb.mono h.base), h.r0, fun t x hx => ?_, fun k cs hk => ?_, h.boxinj, fun L e sz hL => ?_, h.rowinj, h.rowbox, σ.ext.stable (fun b hbf => hb.block b (h.extf b hbf).2.1) h.exth, fun b hbf => by
    obtain ⟨h1, h2, h3, h4⟩ := h.extf b hbf
    exact ⟨h1, Nat.lt_of_lt_of_le h2 hb.size, h3, h4⟩, h.small, h.dyn, h.laid, σ.ext.rmono (grow_le hb) h.extr⟩
  · obtain ⟨h1, h2⟩ := h.slots t x hx
    exact ⟨h1.mono (grow_le hb) (fun _ _ => rfl), h2⟩
  · obtain ⟨us, ty, h1, h2, h3⟩ := h.boxes k cs hk
    exact ⟨us, ty, (hb.block _ (Array.getElem?_eq_some_iff.1 h1).1).trans h1, h2, h3.mono (grow_le hb)⟩
  · obtain ⟨rows, v, h1, h2, h3⟩ := h.owns L e sz hL
    refine ⟨rows, v, h1, ?_, h3.keep fun g hg => hb.block g ?_⟩
    · cases L with
      | s t => exact h2
      | b k off => exact (hb.cell (p := ⟨γ.bx k, off, none⟩) (Rel.cell_lt h2)).trans h2
    · rw [hg] at h3; exact h3.lt.2
def St.addBox (σ : St) (k : Nat) (cs : List PV) : St := { σ with box := (k, cs) :: σ.box }
def Gh.addBox (γ : Gh) (k b : Nat) : Gh := { γ with bx := fun j => if j = k then b else γ.bx j }
theorem Rel.addBox {F : Fr} {σ : St} {γ : Gh} {a : Act} {w : World} (h : Rel F σ γ a w) {k : Nat} (hkn : k < 1000000) (hk : look σ.box k = none) {cs : List PV} {us : List Value} (hl : RepL (rdr F.R0 F.w0.heap.size σ γ w) cs us) (ty : TypeId) :
    Rel F (σ.addBox k cs) (γ.addBox k w.heap.size) a (w.alloc (.cells us.toArray ty)) := by
  have hold : ∀ j, j ≠ k → (γ.addBox k w.heap.size).bx j = γ.bx j := fun j hj => by simp [Gh.addBox, hj]
  have hnew : (γ.addBox k w.heap.size).bx k = w.heap.size := by simp [Gh.addBox]
  have hkne : ∀ j, (look σ.box j).isSome → j ≠ k := fun j hj e => by subst e; rw [hk] at hj; cases hj
  have hlb : ∀ j, look (σ.addBox k cs).box j = if k = j then some cs else look σ.box j := fun j => look_cons _ _ _ _
  have hb : Below w.heap.size w (w.alloc (.cells us.toArray ty)) := (Below.refl _ _).alloc (Nat.le_refl _) _
  have hownk : ∀ off, lookL σ.own (.b k off) = none := fun off => by
    cases hq : lookL σ.own (.b k off) with
    | none => rfl
    | some e =>
      obtain ⟨rows, v, h1, _⟩ := h.owns _ e.1 e.2 hq
      simp [St.avAt, hk] at h1
  have hav : ∀ L, (lookL σ.own L).isSome → (σ.addBox k cs).avAt L = σ.avAt L := fun L hL => by
    cases L with
    | s t => rfl
    | b j off =>
      have : k ≠ j := fun e => by subst e; rw [hownk] at hL; cases hL
      simp [St.avAt, hlb, this]
  have hle : ∀ p v, rdr F.R0 F.w0.heap.size σ γ w p = some v → rdr F.R0 F.w0.heap.size (σ.addBox k cs) (γ.addBox k w.heap.size) (w.alloc (.cells us.toArray ty)) p = some v := by
    refine rdr_le fun p v hB hm hc => ⟨fun hm' => ?_, (hb.cell (Rel.cell_lt hc)).trans hc⟩
    have hplt := Rel.cell_lt hc
    rcases hm' with ⟨j, cs', hj, hp⟩ | ⟨L, e, sz, rows, h1, h2, h3, h4⟩ | hx
    · rw [hlb] at hj
      by_cases hkj : k = j
      · subst hkj; rw [hnew] at hp; omega
      · rw [if_neg hkj] at hj
        exact hm (.inl ⟨j, cs', hj, by rw [hp, hold j (fun e => hkj e.symm)]⟩)
    · exact hm (.inr (.inl ⟨L, e, sz, rows, h1, by rw [← hav L (by rw [show lookL σ.own L = _ from h1]; rfl)]; exact h2, h3, h4⟩))
    · exact hm (.inr (.inr hx))
  refine ⟨h.defers, h.size, h.below.trans (hb.mono h.base), h.r0, fun t x hx => ?_, fun j cs' hj => ?_, fun j j' hj hj' => ?_, fun L e sz hL => ?_, h.rowinj, fun L j g hL hj hg => ?_, σ.ext.stable (fun b hbf => hb.block b (h.extf b hbf).2.1) h.exth, fun b hbf => ?ext, h.small, fun j hj hd => by
    rw [hlb] at hj
    have hkj : k ≠ j := by omega
    rw [if_neg hkj] at hj
    rw [hold j (fun e => hkj e.symm)]
    exact h.dyn j hj hd, h.laid, σ.ext.rmono hle h.extr⟩
  case ext =>
    obtain ⟨h1, h2, h3, h4⟩ := h.extf b hbf
    refine ⟨h1, Nat.lt_of_lt_of_le h2 hb.size, fun j hj => ?_, h4⟩
    rw [hlb] at hj
    by_cases hkj : k = j
    · subst hkj; rw [hnew]; omega
    · rw [if_neg hkj] at hj
      rw [hold j (fun e => hkj e.symm)]
      exact h3 j hj
  · obtain ⟨h1, h2⟩ := h.slots t x hx
    refine ⟨h1.mono hle (fun j hj => hold j (hkne j (h2 j hj))), fun j hj => ?_⟩
    rw [hlb, if_neg (fun e => hkne j (h2 j hj) e.symm)]
    exact h2 j hj
  · rw [hlb] at hj
    by_cases hkj : k = j
    · subst hkj
      rw [if_pos rfl] at hj
      cases hj
      exact ⟨us, ty, by rw [hnew]; exact heap_alloc_new w _, by rw [hnew]; exact h.base, hl.mono hle⟩
    · rw [if_neg hkj] at hj
      obtain ⟨us', ty', h1, h2, h3⟩ := h.boxes j cs' hj
      rw [hold j (fun e => hkj e.symm)]
      exact ⟨us', ty', (hb.block _ (Array.getElem?_eq_some_iff.1 h1).1).trans h1, h2, h3.mono hle⟩
  · rw [hlb] at hj hj'
    by_cases h1 : k = j <;> by_cases h2 : k = j'
    · intro _; rw [← h1, ← h2]
    · subst h1
      rw [if_neg h2] at hj'
      rw [hnew, hold j' (fun e => h2 e.symm)]
      have := (h.box_lt hj').1
      intro e; omega
    · subst h2
      rw [if_neg h1] at hj
      rw [hnew, hold j (fun e => h1 e.symm)]
      have := (h.box_lt hj).1
      intro e; omega
    · rw [if_neg h1] at hj
      rw [if_neg h2] at hj'
      rw [hold j (fun e => h1 e.symm), hold j' (fun e => h2 e.symm)]
      exact h.boxinj j j' hj hj'
  · obtain ⟨rows, v, h1, h2, h3⟩ := h.owns L e sz hL
    have hL' : (lookL σ.own L).isSome := by rw [show lookL σ.own L = _ from hL]; rfl
    refine ⟨rows, v, (hav L hL').trans h1, ?_, h3.keep fun g hg => hb.block g (h.row_lt hL' hg).1⟩
    cases L with
    | s t => exact h2
    | b j off =>
      have : j ≠ k := fun e => by subst e; rw [hownk] at hL'; cases hL'
      show (w.alloc _).cell? ⟨(γ.addBox k w.heap.size).bx j, off, none⟩ = some v
      rw [hold j this]
      exact (hb.cell (p := ⟨γ.bx j, off, none⟩) (Rel.cell_lt h2)).trans h2
  · rw [hlb] at hj
    by_cases hkj : k = j
    · subst hkj
      rw [hnew]
      have := (h.row_lt hL hg).1
      omega
    · rw [if_neg hkj] at hj
      rw [hold j (fun e => hkj e.symm)]
      exact h.rowbox L j g hL hj hg

structure St.Sub (σ σ' : St) : Prop where
  slot : ∀ t x, look σ'.slot t = some x → look σ.slot t = some x
  box : ∀ k cs, look σ'.box k = some cs → look σ.box k = some cs
  own : ∀ L e, lookL σ'.own L = some e → lookL σ.own L = some e ∧ σ'.avAt L = σ.avAt L
  refs : ∀ t x, look σ'.slot t = some x → ∀ k ∈ x.refs, (look σ'.box k).isSome
  ext : σ'.ext = σ.ext
theorem Rel.sub {F : Fr} {σ σ' : St} {γ : Gh} {a : Act} {w : World} (h : Rel F σ γ a w) (hs : σ.Sub σ') : Rel F σ' γ a w := by
  have hle : ∀ p v, rdr F.R0 F.w0.heap.size σ γ w p = some v → rdr F.R0 F.w0.heap.size σ' γ w p = some v := by
    refine rdr_le fun p v hB hm hc => ⟨fun hm' => ?_, hc⟩
    rcases hm' with ⟨j, cs', hj, hp⟩ | ⟨L, e, sz, rows, h1, h2, h3, h4⟩ | hx
    · exact hm (.inl ⟨j, cs', hs.box _ _ hj, hp⟩)
    · obtain ⟨h5, h6⟩ := hs.own _ _ h1
      exact hm (.inr (.inl ⟨L, e, sz, rows, h5, h6.symm.trans h2, h3, h4⟩))
    · rw [hs.ext] at hx; exact hm (.inr (.inr hx))
  have hsome : ∀ L, (lookL σ'.own L).isSome → (lookL σ.own L).isSome := fun L hL => by
    obtain ⟨e, he⟩ := Option.isSome_iff_exists.1 hL
    rw [(hs.own _ _ he).1]; rfl
  have hbox : ∀ k, (look σ'.box k).isSome → (look σ.box k).isSome := fun k hk => by
    obtain ⟨cs, he⟩ := Option.isSome_iff_exists.1 hk
    rw [hs.box _ _ he]; rfl
  refine ⟨h.defers, h.size, h.below, h.r0, fun t x hx => ?_, fun k cs hk => ?_, fun j j' hj hj' => h.boxinj j j' (hbox j hj) (hbox j' hj'), fun L e sz hL => ?_, fun L L' g hL hL' => h.rowinj L L' g (hsome L hL) (hsome L' hL'), fun L k g hL hk => h.rowbox L k g (hsome L hL) (hbox k hk), by rw [hs.ext]; exact h.exth, fun b hb => by
    rw [hs.ext] at hb
    obtain ⟨h1, h2, h3, h4⟩ := h.extf b hb
    exact ⟨h1, h2, fun k hk => h3 k (hbox k hk), fun L hL => h4 L (hsome L hL)⟩, h.small, fun k hk => h.dyn k (hbox k hk), by rw [hs.ext]; exact h.laid, by rw [hs.ext]; exact σ.ext.rmono hle h.extr⟩
  · obtain ⟨h1, _⟩ := h.slots t x (hs.slot _ _ hx)
    exact ⟨h1.mono hle (fun _ _ => rfl), hs.refs t x hx⟩
  · obtain ⟨us, ty, h1, h2, h3⟩ := h.boxes k cs (hs.box _ _ hk)
    exact ⟨us, ty, h1, h2, h3.mono hle⟩
  · obtain ⟨h5, h6⟩ := hs.own _ _ hL
    obtain ⟨rows, v, h1, h2, h3⟩ := h.owns L e sz h5
    exact ⟨rows, v, h6.trans h1, h2, h3⟩
theorem Rel.congr {F : Fr} {σ σ' : St} {γ : Gh} {a : Act} {w : World} (h : Rel F σ γ a w) (h1 : ∀ t, look σ'.slot t = look σ.slot t) (h2 : ∀ k, look σ'.box k = look σ.box k) (h3 : ∀ L, lookL σ'.own L = lookL σ.own L) (h4 : σ'.ext = σ.ext) : Rel F σ' γ a w :=
  h.sub ⟨fun t x hx => (h1 t).symm.trans hx, fun k cs hk => (h2 k).symm.trans hk, fun L e he => ⟨(h3 L).symm.trans he, by cases L <;> simp [St.avAt, h1, h2]⟩, fun t x hx k hk => by
    rw [h2]; exact (h.slots t x ((h1 t).symm.trans hx)).2 k hk, h4⟩

end Av
end Go.Proofs.YtcloigoajohppaaGreatDoor
/- Abstract states: rows that the frame owns: made, grown, handed on; a store into a box. Generic. -/
namespace Go.Proofs.YtcloigoajohppaaGreatDoor
open Go.RowKit
namespace Av

theorem add_mid (b o j : Nat) : (⟨b, o, none⟩ : Addr).add j = ⟨b, o + j, none⟩ := Addr.add_mid b o j
section
variable {P : Program}
theorem run_append_av (w : World) (base : Nat) (t ty e : TypeId) (i : TypeInfo) (z : Value) (ht : P.underlying t = some (.slice e)) (hi : P.info? e = some i) (hz : i.zero = some z)
    (hzs : z.cells.size = i.size) (hsz : 0 < i.size) (hby : i.bytes ≤ 1000000) (v : Value) (n : Nat) (xs : List Value) (q : Option Nat) (hown : OwnV w base e i.size n v q) (hxl : xs.length = n * i.size)
    (hxs : ∀ g, q = some g → ∀ (j : Nat) (u : Value), xs[j]? = some u → w.cell? ⟨g, j, none⟩ = some u)
    (A : Option Addr) (m c : Nat) (news : List Value) (hl : news.length = m * i.size) (hA : m = 0 ∨ ∃ b off, A = some ⟨b, off, none⟩ ∧ ∀ (j : Nat) (u : Value), news[j]? = some u → w.cell? ⟨b, off + j, none⟩ = some u)
    (h1 : ∀ u ∈ news, u.oneCell' = true) (hnm : n + m ≤ 100000000) (hbase : base ≤ w.heap.size) :
    ∃ v' w' q', (Builtin.append_ #[t, t] ty #[v, .slice A m c]).run P w = .ok v' w' ∧ OwnV w' base e i.size (n + m) v' q' ∧ (∀ g, q' = some g → ∀ (j : Nat) (u : Value), (xs ++ news)[j]? = some u → w'.cell? ⟨g, j, none⟩ = some u) ∧
      (∀ k, k < w.heap.size → q ≠ some k → w'.heap[k]? = w.heap[k]?) ∧ (∀ g, q = some g → ∀ j, j < n * i.size → w'.cell? ⟨g, j, none⟩ = w.cell? ⟨g, j, none⟩) ∧ (q' = q ∨ q' = some w.heap.size) ∧
      w'.os = w.os ∧ w'.tape = w.tape ∧ w'.output = w.output ∧ w.heap.size ≤ w'.heap.size := by
  have hmax : n + m ≤ maxLen := by simp only [maxLen]; omega
  have hbytes : (n + m) * i.bytes ≤ 140737488355328 := Nat.le_trans (Nat.mul_le_mul hnm hby) (by decide)
  by_cases hm : m = 0
  · subst hm
    have hn0 : news = [] := List.eq_nil_of_length_eq_zero (by simpa using hl)
    subst hn0
    have hrun : (Builtin.append_ #[t, t] ty #[v, .slice A 0 c]).run P w = .ok v w := by
      cases q with
      | none =>
        obtain ⟨rfl, rfl⟩ := hown
        cases A <;> simp [Builtin.append_, run_underlying ht, sizeOf, typeInfo, hi, Builtin.lenOf, Builtin.firstCells, loadCells, loadCellsFrom]
      | some g =>
        obtain ⟨cap, cur, rfl, _, _, hnc, _⟩ := hown
        cases A <;> simp [Builtin.append_, run_underlying ht, sizeOf, typeInfo, hi, Builtin.lenOf, Builtin.firstCells, hnc, storeCells, loadCells, loadCellsFrom]
    exact ⟨v, w, q, hrun, hown, fun g hg j u hu => hxs g hg j u (by simpa using hu), fun _ _ _ => rfl, fun _ _ _ _ => rfl, .inl rfl, rfl, rfl, rfl, Nat.le_refl _⟩
  · obtain ⟨b, off, rfl, hnews⟩ := hA.resolve_left hm
    have hnews' : ∀ (j : Nat) (u : Value), news[j]? = some u → w.cell? ((⟨b, off, none⟩ : Addr).add j) = some u := fun j u hu => by rw [add_mid]; exact hnews j u hu
    have hlen : (xs ++ news).length = (n + m) * i.size := by rw [List.length_append, hxl, hl, Nat.add_mul]
    have grown : ∀ (old : Nat), old < n + m → OwnV (w.drew.alloc (.cells (xs.toArray ++ news.toArray ++ Builtin.zeroCells z.cells (grownCap w (n + m) old e - (n + m))) e)) base e i.size (n + m) (.slice (some ⟨w.heap.size, 0, none⟩) (n + m) (grownCap w (n + m) old e)) (some w.heap.size) ∧
        (∀ g, some w.heap.size = some g → ∀ (j : Nat) (u : Value), (xs ++ news)[j]? = some u → (w.drew.alloc (.cells (xs.toArray ++ news.toArray ++ Builtin.zeroCells z.cells (grownCap w (n + m) old e - (n + m))) e)).cell? ⟨g, j, none⟩ = some u) := by
      intro old ho
      have hge := grownCap_ge w (n + m) old e
      have hcm : grownCap w (n + m) old e ≤ maxLen := grownCap_le_maxLen w (n + m) old e hmax
      refine ⟨⟨_, _, rfl, hbase, heap_alloc_new w.drew _, hge, hcm, ?_⟩, ?_⟩
      · simp only [Array.size_append, List.size_toArray, size_zeroCells, hzs, hxl, hl, ← Nat.add_mul]
        congr 1
        omega
      · rintro g hg j u hu
        cases hg
        have hh : (w.drew.alloc (.cells (xs.toArray ++ news.toArray ++ Builtin.zeroCells z.cells (grownCap w (n + m) old e - (n + m))) e)).heap[w.heap.size]? = some (.cells (xs.toArray ++ news.toArray ++ Builtin.zeroCells z.cells (grownCap w (n + m) old e - (n + m))) e (0, 0)) := heap_alloc_new w.drew _
        rw [cell_of_row _ _ j _ e (0, 0) hh]
        have hj : j < (xs ++ news).length := (List.getElem?_eq_some_iff.1 hu).1
        rw [← Array.getElem?_toList]
        simp only [Array.toList_append]
        rw [List.getElem?_append_left (by simpa using hj)]
        exact hu
    have hold : ∀ (o : Obj) (k : Nat), k < w.heap.size → (w.drew.alloc o).heap[k]? = w.heap[k]? := fun o k hk => by
      show (w.heap.push o)[k]? = _
      rw [Array.getElem?_push, if_neg (by omega)]
    cases q with
    | none =>
      obtain ⟨rfl, rfl⟩ := hown
      have hx : xs = [] := List.eq_nil_of_length_eq_zero (by simpa using hxl)
      subst hx
      have hr := run_append_nil (P := P) w t ty e i z ht hi hz ⟨b, off, none⟩ m c news hl hnews' (by omega) (by omega) (by have hb := hbytes; simp only [Nat.zero_add] at hb; omega)
      obtain ⟨g1, g2⟩ := grown 0 (by omega)
      simp only [Nat.zero_add, List.nil_append, Array.empty_append] at g1 g2 ⊢
      exact ⟨_, _, some w.heap.size, hr, g1, g2, fun k hk _ => hold _ k hk, fun g hg => (by cases hg), .inr rfl, rfl, rfl, rfl, by simp⟩
    | some g =>
      obtain ⟨cap, cur, rfl, hbg, hg, hnc, hcm, hcs⟩ := hown
      have hglt : g < w.heap.size := (Array.getElem?_eq_some_iff.1 hg).1
      have hcur : cur.toList.take (n * i.size) = xs := by
        refine List.ext_getElem? fun j => ?_
        rw [List.getElem?_take]
        by_cases hj : j < n * i.size
        · rw [if_pos hj]
          have hj' : j < xs.length := by rw [hxl]; exact hj
          have := hxs g rfl j xs[j] (List.getElem?_eq_getElem hj')
          rw [cell_of_row w g j cur e (0, 0) hg] at this
          rw [List.getElem?_eq_getElem hj', ← this]
          simp
        · rw [if_neg hj, List.getElem?_eq_none (by rw [hxl]; omega)]
      by_cases hroom : n + m ≤ cap
      · have hfit : n * i.size + news.length ≤ cur.size := by rw [hl, hcs, ← Nat.add_mul]; exact Nat.mul_le_mul_right _ hroom
        have hr := run_append_room (P := P) w t ty e i ht hi g n cap cur hg ⟨b, off, none⟩ m c news hl hnews' h1 hroom hfit
        have hhp := setRow_heap w g cur (cur.toList.take (n * i.size) ++ news ++ cur.toList.drop (n * i.size + news.length)).toArray e (0, 0) hg
        have hcell : ∀ (j : Nat) (u : Value), (xs ++ news)[j]? = some u → (w.setRow g (cur.toList.take (n * i.size) ++ news ++ cur.toList.drop (n * i.size + news.length)).toArray).cell? ⟨g, j, none⟩ = some u := fun j u hu => by
          rw [cell_of_row _ g j _ e (0, 0) hhp]
          rw [← Array.getElem?_toList]
          simp only
          rw [hcur, List.getElem?_append_left (List.getElem?_eq_some_iff.1 hu).1]
          exact hu
        refine ⟨_, _, some g, hr, ⟨cap, _, rfl, hbg, hhp, hroom, hcm, ?_⟩, fun g' hg' => by cases hg'; exact hcell, fun k _ hk => setRow_other w g k _ (fun e => hk (by rw [e])), ?_, .inl rfl, rfl, rfl, rfl, by simp⟩
        · simp only [List.size_toArray, List.length_append, List.length_take, List.length_drop, Array.length_toList]
          omega
        · rintro g' hg' j hj
          cases hg'
          have hj' : j < xs.length := by rw [hxl]; exact hj
          rw [hcell j xs[j] (by rw [List.getElem?_append_left hj']; exact List.getElem?_eq_getElem hj'), hxs g rfl j xs[j] (List.getElem?_eq_getElem hj')]
      · have hr := run_append_grow (P := P) w t ty e i z ht hi hz ⟨g, 0, none⟩ n cap xs hxl (fun j u hu => by rw [add_mid, Nat.zero_add]; exact hxs g rfl j u hu) ⟨b, off, none⟩ m c news hl hnews' (by omega) (by omega) (growslice_fits (by omega) hbytes)
        obtain ⟨g1, g2⟩ := grown cap (by omega)
        refine ⟨_, _, some w.heap.size, hr, g1, g2, fun k hk _ => hold _ k hk, fun g' hg' j _ => ?_, .inr rfl, rfl, rfl, rfl, by simp⟩
        cases hg'
        exact World.cell?_of_block (w := w) (a := ⟨g, j, none⟩) (hold _ g hglt)
end

def delS (l : List (Loc × (TypeId × Nat))) : Option Nat → List (Loc × (TypeId × Nat))
  | some t => delL l (.s t)
  | none => l
def St.putOwn (σ : St) (d sz : Nat) (rows : List (List PV)) (e : TypeId) : St := { slot := (d, .sl sz rows) :: σ.slot, box := σ.box, own := (.s d, (e, sz)) :: delL σ.own (.s d), ext := σ.ext }
def Gh.setRow (γ : Gh) (L : Loc) (q : Option Nat) : Gh := { γ with rw := fun L' => if L' = L then q else γ.rw L' }
theorem lookL_putOwn (σ : St) (d sz : Nat) (rows : List (List PV)) (e : TypeId) (L : Loc) : lookL (σ.putOwn d sz rows e).own L = if L = .s d then some (e, sz) else lookL σ.own L := by
  unfold St.putOwn
  dsimp only
  rw [lookL_cons, lookL_del]
  by_cases h : L = .s d
  · rw [if_pos h.symm, if_pos h]
  · rw [if_neg (fun e => h e.symm), if_neg h, if_neg h]
theorem avAt_putOwn {σ : St} {d sz : Nat} {rows : List (List PV)} {e : TypeId} {L : Loc} : (σ.putOwn d sz rows e).avAt L = if L = .s d then some (.sl sz rows) else σ.avAt L := by
  cases L with
  | s t =>
    simp only [St.avAt, St.putOwn, look_cons, Loc.s.injEq]
    by_cases h : d = t
    · rw [if_pos h, if_pos h.symm]
    · rw [if_neg h, if_neg (fun e => h e.symm)]
  | b k off => rw [if_neg (by simp)]; rfl
theorem Rel.row {F : Fr} {σ : St} {γ : Gh} {a : Act} {w w1 : World} (h : Rel F σ γ a w) {d : Nat} (hd : d < F.n) {s : Option Nat} {sz : Nat} {rows : List (List PV)} {e : TypeId} {v : Value} {q : Option Nat}
    (hos : w1.os = w.os) (htp : w1.tape = w.tape) (hou : w1.output = w.output) (hsz : w.heap.size ≤ w1.heap.size)
    (hb : ∀ k, k < w.heap.size → (∀ t, s = some t → γ.rw (.s t) ≠ some k) → w1.heap[k]? = w.heap[k]?)
    (hs : ∀ t, s = some t → ∃ es rs, lookL σ.own (.s t) = some es ∧ look σ.slot t = some (.sl es.2 rs) ∧ rs.length * es.2 ≤ rows.length * sz ∧ ∀ g, γ.rw (.s t) = some g → ∀ j, j < rs.length * es.2 → w1.cell? ⟨g, j, none⟩ = w.cell? ⟨g, j, none⟩)
    (hq : ∀ g, q = some g → w.heap.size ≤ g ∨ ∃ t, s = some t ∧ γ.rw (.s t) = some g)
    (hv : OwnV w1 F.w0.heap.size e sz rows.length v q)
    (hrep : RepP (fun p => if (rdr F.R0 F.w0.heap.size σ γ w p).isSome then rdr F.R0 F.w0.heap.size σ γ w p else if q = some p.block ∧ p.off < rows.length * sz then w1.cell? p else if p.block < w.heap.size ∨ q = some p.block then none else w1.cell? p) (.sl sz rows) v) :
    Rel F ({ σ with own := delS σ.own s }.putOwn d sz rows e) (γ.setRow (.s d) q) (a.put (some d) v) w1 := by
  generalize hσ1 : ({ σ with own := delS σ.own s } : St) = σ1
  have hslot : σ1.slot = σ.slot := by rw [← hσ1]
  have hbox : σ1.box = σ.box := by rw [← hσ1]
  have hext : σ1.ext = σ.ext := by rw [← hσ1]
  have hown1 : ∀ L x, lookL σ1.own L = some x → lookL σ.own L = some x ∧ ∀ t, s = some t → L ≠ .s t := fun L x hx => by
    rw [← hσ1] at hx
    cases s with
    | none => exact ⟨hx, fun t ht => by cases ht⟩
    | some t =>
      dsimp only [delS] at hx
      rw [lookL_del] at hx
      by_cases hL : L = .s t
      · rw [if_pos hL] at hx; cases hx
      · rw [if_neg hL] at hx; exact ⟨hx, fun t' ht' => by cases ht'; exact hL⟩
  have hav1 : ∀ L, σ1.avAt L = σ.avAt L := fun L => by cases L <;> simp [St.avAt, hslot, hbox]
  have hsome : ∀ {L x}, lookL σ.own L = some x → (lookL σ.own L).isSome := fun hx => by rw [show lookL σ.own _ = _ from hx]; rfl
  -- the rows of others are not touched
  have hother : ∀ L x g, lookL σ1.own L = some x → γ.rw L = some g → w1.heap[g]? = w.heap[g]? ∧ q ≠ some g := fun L x g hx hg => by
    obtain ⟨h1, h2⟩ := hown1 L x hx
    have hlt := (h.row_lt (hsome h1) hg).1
    have hne : ∀ t, s = some t → γ.rw (.s t) ≠ some g := fun t ht e => by
      obtain ⟨es, rs, h3, _⟩ := hs t ht
      exact h2 t ht (h.rowinj L (.s t) g (hsome h1) (hsome h3) hg e)
    refine ⟨hb g hlt hne, fun e => ?_⟩
    rcases hq g e with hge | ⟨t, ht, hgt⟩
    · omega
    · exact hne t ht hgt
  have hboxes : ∀ k, (look σ.box k).isSome → w1.heap[γ.bx k]? = w.heap[γ.bx k]? ∧ q ≠ some (γ.bx k) := fun k hk => by
    have hlt := (h.box_lt hk).1
    have hne : ∀ t, s = some t → γ.rw (.s t) ≠ some (γ.bx k) := fun t ht e => by
      obtain ⟨es, rs, h3, _⟩ := hs t ht
      exact h.rowbox (.s t) k _ (hsome h3) hk e rfl
    refine ⟨hb _ hlt hne, fun e => ?_⟩
    rcases hq _ e with hge | ⟨t, ht, hgt⟩
    · omega
    · exact hne t ht hgt
  have hrw : ∀ L, L ≠ .s d → (γ.setRow (.s d) q).rw L = γ.rw L := fun L hL => by simp [Gh.setRow, hL]
  have hrwd : (γ.setRow (.s d) q).rw (.s d) = q := by simp [Gh.setRow]
  have hmut : ∀ p, ¬ σ.mut γ p → ¬ (q = some p.block ∧ rows.length * sz ≤ p.off) → ¬ (σ1.putOwn d sz rows e).mut (γ.setRow (.s d) q) p := fun p hm hp hm' => by
    rcases hm' with ⟨k, cs, hk, hpk⟩ | ⟨L, e', sz', rows', h1, h2, h3, h4⟩ | hx
    · exact hm (.inl ⟨k, cs, by rw [← hbox]; exact hk, hpk⟩)
    rotate_left
    · exact hm (.inr (.inr (by rw [← hext]; exact hx)))
    · by_cases hL : L = .s d
      · subst hL
        rw [avAt_putOwn, if_pos rfl] at h2
        rw [hrwd] at h3
        cases h2
        exact hp ⟨h3, h4⟩
      · rw [lookL_putOwn, if_neg hL] at h1
        rw [avAt_putOwn, if_neg hL, hav1] at h2
        rw [hrw L hL] at h3
        exact hm (.inr (.inl ⟨L, e', sz', rows', (hown1 L _ h1).1, h2, h3, h4⟩))
  have hcellkeep : ∀ p v, F.w0.heap.size ≤ p.block → ¬ σ.mut γ p → w.cell? p = some v → w1.cell? p = some v ∧ ¬ (q = some p.block ∧ rows.length * sz ≤ p.off) := fun p v hB hm hc => by
    have hlt := Rel.cell_lt hc
    by_cases hp : ∃ t, s = some t ∧ γ.rw (.s t) = some p.block
    · obtain ⟨t, ht, hg⟩ := hp
      obtain ⟨es, rs, h3, h4, h5, h6⟩ := hs t ht
      have hoff : p.off < rs.length * es.2 := by
        rcases Nat.lt_or_ge p.off (rs.length * es.2) with h7 | h7
        · exact h7
        · exact absurd (.inr (.inl ⟨.s t, es.1, es.2, rs, h3, h4, hg, h7⟩)) hm
      have hsp : p = ⟨p.block, p.off, none⟩ := by
        obtain ⟨pb, po, ps⟩ := p
        cases ps with
        | none => rfl
        | some x => simp [World.cell?] at hc; split at hc <;> simp at hc
      refine ⟨?_, fun e => by omega⟩
      rw [hsp, h6 p.block hg p.off hoff, ← hsp]
      exact hc
    · have hne : ∀ t, s = some t → γ.rw (.s t) ≠ some p.block := fun t ht hg => hp ⟨t, ht, hg⟩
      refine ⟨(World.cell?_of_block (w := w) (hb p.block hlt hne)).trans hc, fun e => ?_⟩
      rcases hq _ e.1 with hge | ⟨t, ht, hgt⟩
      · omega
      · exact hne t ht hgt
  have hle : ∀ p v, rdr F.R0 F.w0.heap.size σ γ w p = some v → rdr F.R0 F.w0.heap.size (σ1.putOwn d sz rows e) (γ.setRow (.s d) q) w1 p = some v :=
    rdr_le fun p v hB hm hc => by
      obtain ⟨h1, h2⟩ := hcellkeep p v hB hm hc
      exact ⟨hmut p hm h2, h1⟩
  have hblk : ∀ b, σ.ext.foot b ∨ σ.ext.froz b → w1.heap[b]? = w.heap[b]? ∧ q ≠ some b := fun b hbf => by
    obtain ⟨h1, h2, h3, h4⟩ := h.extf b hbf
    have hne : ∀ t, s = some t → γ.rw (.s t) ≠ some b := fun t ht => by
      obtain ⟨es, rs, h5, _⟩ := hs t ht
      exact h4 (.s t) (hsome h5)
    refine ⟨hb b h2 hne, fun e => ?_⟩
    rcases hq b e with hge | ⟨t, ht, hgt⟩
    · omega
    · exact hne t ht hgt
  have hexth : (σ1.putOwn d sz rows e).ext.holds w1 := by
    show σ1.ext.holds w1
    rw [hext]
    exact σ.ext.stable (fun b hbf => (hblk b hbf).1) h.exth
  have hextf : ∀ b, (σ1.putOwn d sz rows e).ext.foot b ∨ (σ1.putOwn d sz rows e).ext.froz b → F.w0.heap.size ≤ b ∧ b < w1.heap.size ∧ (∀ k, (look (σ1.putOwn d sz rows e).box k).isSome → (γ.setRow (.s d) q).bx k ≠ b) ∧ (∀ L, (lookL (σ1.putOwn d sz rows e).own L).isSome → (γ.setRow (.s d) q).rw L ≠ some b) := fun b hbf => by
    have hbf' : σ.ext.foot b ∨ σ.ext.froz b := by rw [← hext]; exact hbf
    obtain ⟨h1, h2, h3, h4⟩ := h.extf b hbf'
    refine ⟨h1, by omega, fun k hk => h3 k (by rw [← hbox]; exact hk), fun L hL => ?_⟩
    by_cases hLd : L = .s d
    · rw [hLd, hrwd]; exact (hblk b hbf').2
    · obtain ⟨x, hx⟩ := Option.isSome_iff_exists.1 hL
      rw [lookL_putOwn, if_neg hLd] at hx
      rw [hrw L hLd]
      exact h4 L (hsome (hown1 L _ hx).1)
  have hd' : d < a.tmps.size := by rw [h.size]; exact hd
  refine ⟨by rw [defers_put]; exact h.defers, by rw [size_put]; exact h.size, h.below.trans ⟨hos, htp, hou, hsz, fun k hk => hb k (Nat.lt_of_lt_of_le hk h.base) fun t ht e => by
      obtain ⟨es, rs, h3, _⟩ := hs t ht
      have := (h.row_lt (hsome h3) e).2
      omega⟩, h.r0, fun t y hy => ?_, fun k cs hk => ?_, fun k k' hk hk' => ?_, fun L e' sz' hL => ?_, fun L L' g hL hL' hg hg' => ?_, fun L k g hL hk hg => ?_, hexth, hextf, h.small, fun k hk => h.dyn k (by rw [← hbox]; exact hk), (show σ1.ext.laid F.w0 from hext ▸ h.laid), (show ∀ R, σ.ext.reads R → σ1.ext.reads R from fun R h => by rw [hext]; exact h) _ (σ.ext.rmono hle h.extr)⟩
  · simp only [St.putOwn, look_cons] at hy
    rw [getD_put hd']
    by_cases hdt : d = t
    · rw [if_pos hdt] at hy ⊢
      cases hy
      refine ⟨RepP.mono (fun p v hp => ?_) hrep, fun k hk => by cases hk⟩
      by_cases hr : (rdr F.R0 F.w0.heap.size σ γ w p).isSome
      · rw [if_pos hr] at hp; exact hle p v hp
      · rw [if_neg hr] at hp
        have hnB : ¬ p.block < F.w0.heap.size := fun hB => by
          have hplt : p.block < w.heap.size := Nat.lt_of_lt_of_le hB h.base
          by_cases hqp : q = some p.block ∧ p.off < rows.length * sz
          · rw [hqp.1] at hv
            have := hv.lt.1
            omega
          · rw [if_neg hqp, if_pos (.inl hplt)] at hp; cases hp
        unfold rdr
        rw [if_neg hnB]
        by_cases hqp : q = some p.block ∧ p.off < rows.length * sz
        · rw [if_pos hqp] at hp
          rw [if_neg ?_]
          · exact hp
          · rintro (⟨k, cs, hk, hpk⟩ | ⟨L, e', sz', rows', h1, h2, h3, h4⟩ | hx)
            rotate_left 2
            · exact (hblk p.block (σ.ext.mutb (by rw [← hext]; exact hx))).2 hqp.1
            · have hk' : look σ.box k = some cs := by rw [← hbox]; exact hk
              exact (hboxes k (by rw [hk']; rfl)).2 (by rw [hqp.1, hpk]; rfl)
            · by_cases hL : L = .s d
              · subst hL
                rw [avAt_putOwn, if_pos rfl] at h2
                cases h2
                omega
              · rw [lookL_putOwn, if_neg hL] at h1
                rw [hrw L hL] at h3
                exact (hother L _ _ h1 h3).2 hqp.1
        · rw [if_neg hqp] at hp
          by_cases hpp : p.block < w.heap.size ∨ q = some p.block
          · rw [if_pos hpp] at hp; cases hp
          · rw [if_neg hpp] at hp
            rw [if_neg ?_]
            · exact hp
            · refine hmut p ?_ (fun e => hpp (.inr e.1))
              rintro (⟨k, cs, hk, hpk⟩ | ⟨L, e', sz', rows', h1, h2, h3, h4⟩ | hx)
              rotate_left 2
              · exact hpp (.inl (h.extf p.block (σ.ext.mutb hx)).2.1)
              · have := (h.box_lt (k := k) (by rw [hk]; rfl)).1
                exact hpp (.inl (by omega))
              · have := (h.row_lt (hsome h1) h3).1
                exact hpp (.inl this)
    · rw [if_neg hdt, hslot] at hy
      rw [if_neg hdt]
      obtain ⟨h1, h2⟩ := h.slots t y hy
      exact ⟨h1.mono hle (fun _ _ => rfl), fun k hk => by
        show (look σ1.box k).isSome
        rw [hbox]; exact h2 k hk⟩
  · have hk' : look σ.box k = some cs := by rw [← hbox]; exact hk
    obtain ⟨us, ty, h1, h2, h3⟩ := h.boxes k cs hk'
    exact ⟨us, ty, (hboxes k (by rw [hk']; rfl)).1.trans h1, h2, h3.mono hle⟩
  · exact h.boxinj k k' (by rw [← hbox]; exact hk) (by rw [← hbox]; exact hk')
  · by_cases hLd : L = .s d
    · subst hLd
      rw [lookL_putOwn, if_pos rfl] at hL
      cases hL
      exact ⟨rows, v, by rw [avAt_putOwn, if_pos rfl], by simp only [valAt, getD_put hd', if_pos], by rw [hrwd]; exact hv⟩
    · rw [lookL_putOwn, if_neg hLd] at hL
      obtain ⟨hL0, _⟩ := hown1 L _ hL
      obtain ⟨rows', v', h1, h2, h3⟩ := h.owns L e' sz' hL0
      refine ⟨rows', v', by rw [avAt_putOwn, if_neg hLd, hav1]; exact h1, ?_, by rw [hrw L hLd]; exact h3.keep fun g hg => (hother L _ g hL hg).1⟩
      cases L with
      | s t =>
        have : d ≠ t := fun e => hLd (by rw [e])
        simp only [valAt, getD_put hd', if_neg this]
        exact h2
      | b k off =>
        have hk : (look σ.box k).isSome := by
          cases hk : look σ.box k with
          | none => simp [St.avAt, hk] at h1
          | some cs => rfl
        exact (World.cell?_of_block (w := w) (a := ⟨γ.bx k, off, none⟩) (hboxes k hk).1).trans h2
  · obtain ⟨x, hx⟩ := Option.isSome_iff_exists.1 hL
    obtain ⟨x', hx'⟩ := Option.isSome_iff_exists.1 hL'
    by_cases h1 : L = .s d <;> by_cases h2 : L' = .s d
    · rw [h1, h2]
    · subst h1
      rw [lookL_putOwn, if_neg h2] at hx'
      rw [hrwd] at hg
      rw [hrw L' h2] at hg'
      exact absurd hg (hother L' _ g hx' hg').2
    · subst h2
      rw [lookL_putOwn, if_neg h1] at hx
      rw [hrwd] at hg'
      rw [hrw L h1] at hg
      exact absurd hg' (hother L _ g hx hg).2
    · rw [lookL_putOwn, if_neg h1] at hx
      rw [lookL_putOwn, if_neg h2] at hx'
      rw [hrw L h1] at hg
      rw [hrw L' h2] at hg'
      exact h.rowinj L L' g (hsome (hown1 L _ hx).1) (hsome (hown1 L' _ hx').1) hg hg'
  · obtain ⟨x, hx⟩ := Option.isSome_iff_exists.1 hL
    have hk' : (look σ.box k).isSome := by rw [← hbox]; exact hk
    by_cases h1 : L = .s d
    · subst h1
      rw [hrwd] at hg
      exact fun e => (hboxes k hk').2 (by rw [hg, e]; rfl)
    · rw [lookL_putOwn, if_neg h1] at hx
      rw [hrw L h1] at hg
      exact h.rowbox L k g (hsome (hown1 L _ hx).1) hk' hg

end Av
end Go.Proofs.YtcloigoajohppaaGreatDoor
/- Abstract states: what an operation without effects yields, and that the machine yields it. Generic. -/
namespace Go.Proofs.YtcloigoajohppaaGreatDoor
open Go.RowKit
namespace Av

theorem RepA.free {R : Reader} {bx bx' : Nat → Nat} {x : AV} {u : Value} (hx : x.refs = []) (h : RepA R bx x u) : RepA R bx' x u :=
  h.mono (fun _ _ hp => hp) (fun k hk => by rw [hx] at hk; cases hk)

structure FRes where
  av : AV
  own : Option TypeId := none
def fresh (R : Reader) (w w' : World) (q : Option Nat) (m : Nat) : Reader := fun p => if p.block < w.heap.size then R p else if q = some p.block ∧ m ≤ p.off then none else w'.cell? p
def ResRep (R : Reader) (w w' : World) (res : FRes) (u : Value) : Prop :=
  match res.own, res.av with
  | some e, .sl sz rows => ∃ q, OwnV w' w.heap.size e sz rows.length u q ∧ RepP (fresh R w w' q (rows.length * sz)) (.sl sz rows) u
  | some _, _ => False
  | none, x => x.refs = [] ∧ RepA (fresh R w w' none 0) (fun _ => 0) x u
inductive RepAL (R : Reader) : List AV → List Value → Prop
  | nil : RepAL R [] []
  | cons {x : AV} {u : Value} {xs : List AV} {us : List Value} (h : RepA R (fun _ => 0) x u) (hr : x.refs = []) (t : RepAL R xs us) : RepAL R (x :: xs) (u :: us)
theorem RepAL.append {R : Reader} {ps qs : List AV} {us vs : List Value} (h : RepAL R ps us) (h' : RepAL R qs vs) : RepAL R (ps ++ qs) (us ++ vs) := by
  induction h with
  | nil => exact h'
  | cons h hr _ ih => exact .cons h hr ih
def Enters (P : Program) (f : FuncId) : Prop := ∃ fn c, P.funcs[f]? = some fn ∧ (fn.name == "runtime.NumGoroutine") = false ∧ fn.body = some c
def FnOK (P : Program) (f : FuncId) (args : List AV) (res : FRes) : Prop :=
  Enters P f ∧ ∀ (w : World) (R : Reader), (∀ p v, R p = some v → w.cell? p = some v) → ∀ us, RepAL R args us →
    Calls P f us.toArray w fun e w' => ∃ u, e = .returned u ∧ Below w.heap.size w w' ∧ ResRep R w w' res u

structure HR where
  av : AV
  box : Option (List PV) := none
  own : Option TypeId := none
def St.res (σ : St) (d : Nat) (r : HR) : St :=
  match r.own with
  | some e => match r.av with
    | .sl sz rows => σ.putOwn d sz rows e
    | x => σ.put d x
  | none => match r.box with
    | some cs => (σ.addBox d cs).put d r.av
    | none => σ.put d r.av

def evo (g : Nat → Option AV) : Operand → Option AV
  | .tmp t => g t
  | .const v => some (.v v)
  | .func f => some (.clo f [])
  | .global _ => none
def evos (g : Nat → Option AV) : List Operand → Option (List AV)
  | [] => some []
  | x :: l => match evo g x, evos g l with
    | some v, some vs => some (v :: vs)
    | _, _ => none
def avCells : AV → Option (List PV)
  | .v u => if u.oneCell' = true then some [.v u] else none
  | .sl sz rows => some [.sl sz rows]
  | .agg xs => some xs
  | _ => none
def snapCaps (bx : Nat → Option (List PV)) : List (Nat × Nat) → Option (List (List PV))
  | [] => some []
  | c :: l => match bx c.1, snapCaps bx l with
    | some cs, some r => some (cs.drop c.2 :: r)
    | _, _ => none
def snap (bx : Nat → Option (List PV)) : AV → Option AV
  | .ref k off => (bx k).map fun cs => .ept (cs.drop off)
  | .clo f caps => (snapCaps bx caps).map (.fnv f)
  | .tup _ => none
  | x => some x
def snaps (bx : Nat → Option (List PV)) : List AV → Option (List AV)
  | [] => some []
  | x :: l => match snap bx x, snaps bx l with
    | some v, some vs => some (v :: vs)
    | _, _ => none
def AV.lit : AV → Bool
  | .v _ => true
  | .tup vs => vs.all fun | .c (.v _) => true | _ => false
  | _ => false
def capRefs (g : Nat → Option AV) : List Operand → Option (List (Nat × Nat))
  | [] => some []
  | x :: l => match evo g x, capRefs g l with
    | some (.ref k off), some r => some ((k, off) :: r)
    | _, _ => none

def abin (op : BinOp) : Value → Value → Option Value
  | .int k a, .int k' b => if k = k' then (match op with
    | .add => some (.int k (k.wrap (a + b)))
    | .sub => some (.int k (k.wrap (a - b)))
    | .mul => some (.int k (k.wrap (a * b)))
    | .quo => if b = 0 then none else some (.int k (k.wrap (a.tdiv b)))
    | .rem => if b = 0 then none else some (.int k (a.tmod b))
    | .eql => some (.bool (a == b))
    | .neq => some (.bool (a != b))
    | .lss => some (.bool (decide (a < b)))
    | .leq => some (.bool (decide (a ≤ b)))
    | .gtr => some (.bool (decide (b < a)))
    | .geq => some (.bool (decide (b ≤ a)))
    | .shr => if b = 1 then some (.int k (a / 2)) else none
    | _ => none) else none
  | .string a, .string b => match op with
    | .eql => some (.bool (a.toList == b.toList))
    | .neq => some (.bool !(a.toList == b.toList))
    | .lss => some (.bool (Op.bytesLess a.toList b.toList))
    | .add => if a.size + b.size ≤ 9223372036854775807 then some (.string (a ++ b)) else none
    | _ => none
  | _, _ => none
def aun (op : UnOp) : Value → Option Value
  | .bool b => match op with
    | .not => some (.bool !b)
    | _ => none
  | .int k a => match op with
    | .neg => some (.int k (k.wrap (0 - a)))
    | _ => none
  | _ => none
def loadK (P : Program) (T : TypeId) (row : List PV) (K : HR → Prop) : Prop :=
  ∃ d n, P.underlying T = some d ∧ (P.info? T).map (·.size) = some n ∧
    if d.isRow = true then n ≤ row.length ∧ K ⟨.agg (row.take n), none, none⟩ else ∃ p, row[0]? = some p ∧ K ⟨p.av, none, none⟩
def bound (g : Nat → Option AV) (dflt : Nat) : Option Operand → Nat → Prop
  | none, n => n = dflt
  | some x, n => ∃ k i, evo g x = some (.v (.int k i)) ∧ 0 ≤ i ∧ n = i.toNat
theorem arr_of {α : Type} {a : Array α} {l : List α} (h : a.toList = l) : a = l.toArray := by rw [← h]
def hopB (P : Program) (g : Nat → Option AV) (b : Builtin) (args : Array Operand) (ats : Array TypeId) (K : HR → Prop) : Prop :=
  match b with
  | .len => ∃ x T, args.toList = [x] ∧ ats.toList = [T] ∧ ((∃ sz rows e, evo g x = some (.sl sz rows) ∧ P.underlying T = some (.slice e) ∧ K ⟨.v (.int .i64 rows.length), none, none⟩) ∨
      (∃ s, evo g x = some (.v (.string s)) ∧ P.underlying T = some .string ∧ K ⟨.v (.int .i64 s.size), none, none⟩) ∨
      (∃ A n c e, evo g x = some (.v (.slice A n c)) ∧ P.underlying T = some (.slice e) ∧ K ⟨.v (.int .i64 n), none, none⟩))
  | .max => ∃ x y k u v, args.toList = [x, y] ∧ evo g x = some (.v (.int k u)) ∧ evo g y = some (.v (.int k v)) ∧ K ⟨.v (.int k (if u < v then v else u)), none, none⟩
  | .min => ∃ x y k u v, args.toList = [x, y] ∧ evo g x = some (.v (.int k u)) ∧ evo g y = some (.v (.int k v)) ∧ K ⟨.v (.int k (if v < u then v else u)), none, none⟩
  | _ => False
def hopF (P : Program) (g : Nat → Option AV) (bx : Nat → Option (List PV)) (f : Operand) (args : Array Operand) (K : HR → Prop) : Prop :=
  ∃ fv fid caps avs avs' res, evo g f = some fv ∧ snap bx fv = some (.fnv fid caps) ∧ evos g args.toList = some avs ∧ snaps bx avs = some avs' ∧ FnOK P fid (avs' ++ caps.map AV.ept) res ∧
    (((fv :: avs).all fun x => x.refs.isEmpty) = true ∨ (res.av.lit = true ∧ res.own = none)) ∧ K ⟨res.av, none, res.own⟩
def hopCall (P : Program) (g : Nat → Option AV) (bx : Nat → Option (List PV)) (c : Call) (K : HR → Prop) : Prop :=
  match c.callee with
  | .builtin b => hopB P g b c.args c.argTypes K
  | .value f => hopF P g bx f c.args K
  | .invoke _ _ => False
def ptrB : AV → Bool
  | .ref _ _ => true
  | .ept _ => true
  | .v (.pointer (some _)) => true
  | _ => false
def hop (P : Program) (g : Nat → Option AV) (bx : Nat → Option (List PV)) (o : Oper) (K : HR → Prop) : Prop :=
  match o.op with
  | .move x | .assign x => ∃ v, evo g x = some v ∧ K ⟨v, none, none⟩
  | .pick c a b => ∃ t v, evo g c = some (.v (.bool t)) ∧ evo g (if t = true then a else b) = some v ∧ K ⟨v, none, none⟩
  | .box _ x => ∃ v cs d, evo g x = some v ∧ avCells v = some cs ∧ o.dst = some d ∧ bx d = none ∧ K ⟨.ref d 0, some cs, none⟩
  | .alloc T => ∃ z d, (P.info? T).map (·.zero) = some (some z) ∧ (z.cells.toList.all (·.oneCell')) = true ∧ o.dst = some d ∧ bx d = none ∧ K ⟨.ref d 0, some (z.cells.toList.map .v), none⟩
  | .load T x => match evo g x with
    | some (.ref k off) => ∃ cs, bx k = some cs ∧ loadK P T (cs.drop off) K
    | some (.ept row) => loadK P T row K
    | _ => False
  | .fieldAddr T x i => ∃ fs f n, P.underlying T = some (.struct fs) ∧ fs[i]? = some f ∧ (P.info? f.type).map (·.size) = some n ∧ 0 < n ∧ (match evo g x with
    | some (.ref k off) => K ⟨.ref k (off + f.offset), none, none⟩
    | some (.ept row) => K ⟨.ept (row.drop f.offset), none, none⟩
    | _ => False)
  | .field T x i => ∃ fs f d n xs, P.underlying T = some (.struct fs) ∧ fs[i]? = some f ∧ P.underlying f.type = some d ∧ (P.info? f.type).map (·.size) = some n ∧ evo g x = some (.agg xs) ∧
      if d.isRow = true then K ⟨.agg ((xs.drop f.offset).take n), none, none⟩ else ∃ p, xs[f.offset]? = some p ∧ K ⟨p.av, none, none⟩
  | .indexAddr T x ix => ∃ k i, evo g ix = some (.v (.int k i)) ∧ 0 ≤ i ∧ (match P.underlying T with
    | some (.slice e) => ∃ sz rows row, evo g x = some (.sl sz rows) ∧ (P.info? e).map (·.size) = some sz ∧ rows[i.toNat]? = some row ∧ K ⟨.ept row, none, none⟩
    | some (.array n e) => ∃ sz, (P.info? e).map (·.size) = some sz ∧ i < n ∧ (match evo g x with
      | some (.ref k off) => K ⟨.ref k (off + i.toNat * sz), none, none⟩
      | some (.ept row) => K ⟨.ept (row.drop (i.toNat * sz)), none, none⟩
      | _ => False)
    | _ => False)
  | .slice T x lo hi mx => mx = none ∧ match P.underlying T with
    | some (.slice e) => ∃ sz rows l h, evo g x = some (.sl sz rows) ∧ (P.info? e).map (·.size) = some sz ∧ bound g 0 lo l ∧ bound g rows.length hi h ∧ l ≤ h ∧ h ≤ rows.length ∧ K ⟨.sl sz ((rows.take h).drop l), none, none⟩
    | some .string => ∃ s l h, evo g x = some (.v (.string s)) ∧ bound g 0 lo l ∧ bound g s.size hi h ∧ l ≤ h ∧ h ≤ s.size ∧ K ⟨.v (.string (s.extract l h)), none, none⟩
    | _ => False
  | .index T x ix => ∃ k i s c, evo g ix = some (.v (.int k i)) ∧ 0 ≤ i ∧ P.underlying T = some .string ∧ evo g x = some (.v (.string s)) ∧ s.data[i.toNat]? = some c ∧ K ⟨.v (.int .u8 (c.toNat : Nat)), none, none⟩
  | .binOp op _ x y _ => ∃ u v r, evo g x = some (.v u) ∧ evo g y = some (.v v) ∧ abin op u v = some r ∧ K ⟨.v r, none, none⟩
  | .unOp op _ x => ∃ u r, evo g x = some (.v u) ∧ aun op u = some r ∧ K ⟨.v r, none, none⟩
  | .makeInterface T x => ∃ u, evo g x = some (.v u) ∧ P.concrete T = true ∧ K ⟨.v (.iface T u), none, none⟩
  | .makeFunc fn first caps => ∃ f cs, fn = .func f ∧ first = #[] ∧ capRefs g caps.toList = some cs ∧ K ⟨.clo f cs, none, none⟩
  | .extract x i => ∃ vs c, evo g x = some (.tup vs) ∧ vs[i]? = some c ∧ K ⟨c.av, none, none⟩
  | .call c => hopCall P g bx c K
  | .nilCheck x => ∃ v, evo g x = some v ∧ ptrB v = true ∧ K ⟨v, none, none⟩
  | _ => False

end Av
end Go.Proofs.YtcloigoajohppaaGreatDoor
/- Abstract states: the machine yields what an operation yields abstractly. Generic. -/
namespace Go.Proofs.YtcloigoajohppaaGreatDoor
open Go.RowKit
namespace Av

theorem Rel.cell {F : Fr} {σ : St} {γ : Gh} {a : Act} {w : World} (h : Rel F σ γ a w) {p : Addr} {v : Value} (hp : rdr F.R0 F.w0.heap.size σ γ w p = some v) : w.cell? p = some v := by
  unfold rdr at hp
  by_cases hB : p.block < F.w0.heap.size
  · rw [if_pos hB] at hp
    exact (h.below.cell hB).trans (h.r0 _ _ hp)
  · rw [if_neg hB] at hp
    by_cases hm : σ.mut γ p
    · rw [if_pos hm] at hp; cases hp
    · rw [if_neg hm] at hp; exact hp
theorem evo_ok {F : Fr} {σ : St} {γ : Gh} {a : Act} {w : World} (h : Rel F σ γ a w) {g : Nat → Option AV} {x : Operand} {v : AV} (hg : ∀ t y, x = .tmp t → g t = some y → look σ.slot t = some y) (he : evo g x = some v) :
    RepA (rdr F.R0 F.w0.heap.size σ γ w) γ.bx v (a.eval x) ∧ ∀ k ∈ v.refs, (look σ.box k).isSome := by
  cases x with
  | tmp t => exact h.slots t v (hg t v rfl he)
  | const u => cases he; exact ⟨rfl, fun k hk => by cases hk⟩
  | func f => cases he; exact ⟨rfl, fun k hk => by cases hk⟩
  | global g => cases he
section
variable {P : Program}
theorem info_some {α : Type} {f : TypeInfo → α} {T : TypeId} {x : α} (h : (P.info? T).map f = some x) : ∃ i, P.info? T = some i ∧ f i = x := by
  cases hi : P.info? T with
  | none => rw [hi] at h; cases h
  | some i => rw [hi] at h; exact ⟨i, rfl, by simpa using h⟩
theorem run_load_one (w : World) (b o : Nat) (T : TypeId) (d : TypeDesc) (v : Value) (hc : w.cell? ⟨b, o, none⟩ = some v) (hu : P.underlying T = some d) (hd : d.isRow = false) :
    (Instr.loadAt T (.pointer (some ⟨b, o, none⟩))).run P w = .ok v w := by
  have hagg : (isAgg T).run P w = .ok false w := by
    unfold isAgg
    rw [Sem.run_bind, run_underlying hu w]
    cases d <;> simp_all
  simp [Instr.loadAt, Instr.sureAddr, loadVar, Sem.run_bind, hagg, load, Sem.run, hc]
end
def src (P : Program) (g : Nat → Option AV) (o : Oper) : Option Loc :=
  match o.op with
  | .move (.tmp s) | .assign (.tmp s) => some (.s s)
  | .load T (.tmp p) => match g p, P.underlying T with
    | some (.ref k off), some d => if d.isRow = true then none else some (.b k off)
    | _, _ => none
  | _ => none
section
variable {P : Program} {F : Fr} {σ : St} {γ : Gh} {a : Act} {w : World} {o : Oper} {Q : Exit → Act → World → Prop} {d : Nat}
def Stp (P : Program) (F : Fr) (σ : St) (γ : Gh) (a : Act) (w : World) (o : Oper) (d : Nat) (σ' : St) : Act → World → Prop := fun a' w' =>
  ∃ γ' u, a' = a.put (some d) u ∧ Below w.heap.size w w' ∧ (∀ k, (look σ.box k).isSome → γ'.bx k = γ.bx k) ∧ Rel F σ' γ' a' w' ∧
    ∀ g S, (∀ t y, Operand.tmp t ∈ o.op.operands.toList → g t = some y → look σ.slot t = some y) → src P g o = some S → valAt a w γ S = some u ∨ valAt a w γ S = none
theorem src_val (h : Rel F σ γ a w) {g : Nat → Option AV} {S : Loc} {u : Value} (hg : ∀ t y, Operand.tmp t ∈ o.op.operands.toList → g t = some y → look σ.slot t = some y) (hs : src P g o = some S) (hrun : (execOp a.eval o).run P w = .ok (.value u) w) :
    valAt a w γ S = some u ∨ valAt a w γ S = none := by
  unfold src at hs
  split at hs
  · rename_i s ho
    cases hs
    simp only [execOp, ho, Sem.run_pure, Result.ok.injEq, Next.value.injEq, and_true] at hrun
    exact .inl (by rw [← hrun]; rfl)
  · rename_i s ho
    cases hs
    simp only [execOp, ho, Sem.run_pure, Result.ok.injEq, Next.value.injEq, and_true] at hrun
    exact .inl (by rw [← hrun]; rfl)
  · rename_i T p ho
    split at hs
    · rename_i k off d0 h1 h2
      split at hs
      · cases hs
      · rename_i hrow
        cases hs
        have h3 := (h.slots p _ (hg p _ (by rw [ho]; simp [Op.operands]) h1)).1
        have h4 : a.eval (.tmp p) = .pointer (some ⟨γ.bx k, off, none⟩) := h3
        show w.cell? ⟨γ.bx k, off, none⟩ = some u ∨ w.cell? ⟨γ.bx k, off, none⟩ = none
        cases hc : w.cell? ⟨γ.bx k, off, none⟩ with
        | none => exact .inr rfl
        | some v =>
          left
          have h5 := run_load_one (P := P) w (γ.bx k) off T d0 v hc h2 (by simpa using hrow)
          simp only [execOp, ho, h4, Sem.run_bind, h5, Result.andThen_ok, Sem.run_pure, Result.ok.injEq, Next.value.injEq, and_true] at hrun
          rw [hrun]
    · cases hs
  · cases hs
theorem pure_ok (h : Rel F σ γ a w) (hd : o.dst = some d) (hdn : d < F.n) {x : AV} {u : Value} (hrun : (execOp a.eval o).run P w = .ok (.value u) w) (hx : RepA (rdr F.R0 F.w0.heap.size σ γ w) γ.bx x u) (hr : ∀ k ∈ x.refs, (look σ.box k).isSome) :
    o.wp P a w (Stp P F σ γ a w o d (σ.res d ⟨x, none, none⟩)) Q := by
  unfold Oper.wp
  rw [hrun]
  show Stp P F σ γ a w o d (σ.put d x) (a.put o.dst u) w
  rw [hd]
  exact ⟨γ, u, rfl, Below.refl _ _, fun _ _ => rfl, h.put hdn hx hr, fun g S hg hs => src_val h hg hs hrun⟩
theorem box_ok (h : Rel F σ γ a w) (hd : o.dst = some d) (hdn : d < F.n) (hb : look σ.box d = none) {cs : List PV} {us : List Value} {ty : TypeId} (hsrc : ∀ g, src P g o = none)
    (hrun : (execOp a.eval o).run P w = .ok (.value (.pointer (some ⟨w.heap.size, 0, none⟩))) (w.alloc (.cells us.toArray ty))) (hl : RepL (rdr F.R0 F.w0.heap.size σ γ w) cs us) :
    o.wp P a w (Stp P F σ γ a w o d (σ.res d ⟨.ref d 0, some cs, none⟩)) Q := by
  unfold Oper.wp
  rw [hrun]
  show Stp P F σ γ a w o d ((σ.addBox d cs).put d (.ref d 0)) (a.put o.dst _) _
  rw [hd]
  refine ⟨_, _, rfl, (Below.refl _ _).alloc (Nat.le_refl _) _, fun k hk => ?_, (h.addBox (Nat.lt_of_lt_of_le hdn h.small) hb hl ty).put hdn ?_ ?_, fun g S hg hs => by rw [hsrc g] at hs; cases hs⟩
  · have : k ≠ d := fun e => by subst e; rw [hb] at hk; cases hk
    simp [Gh.addBox, this]
  · show _ = Value.pointer (some ⟨(γ.addBox d w.heap.size).bx d, 0, none⟩)
    simp [Gh.addBox]
  · intro k hk
    simp only [AV.refs, List.mem_singleton] at hk
    subst hk
    show (look ((k, cs) :: σ.box) k).isSome
    simp [look_cons]
end
theorem avCells_ok {R : Reader} {bx : Nat → Nat} {x : AV} {u : Value} {cs : List PV} (hx : RepA R bx x u) (hc : avCells x = some cs) : RepL R cs u.cells.toList := by
  cases x with
  | v y =>
    simp only [avCells] at hc
    by_cases h1 : y.oneCell' = true
    · rw [if_pos h1] at hc
      cases hc
      rw [show u = y from hx]
      have : y.cells = #[y] := by cases y <;> first | rfl | cases h1
      rw [this]
      exact .cons (.v y h1) .nil
    · rw [if_neg h1] at hc; cases hc
  | sl sz rows =>
    cases hc
    have hx' : RepP R (.sl sz rows) u := hx
    have h1 := hx'.one
    have : u.cells = #[u] := by cases u <;> first | rfl | cases h1
    rw [this]
    exact .cons hx' .nil
  | agg xs =>
    cases hc
    obtain ⟨us, rfl, h1⟩ := hx
    simpa [Value.cells] using h1
  | tup vs => cases hc
  | ref k off => cases hc
  | ept row => cases hc
  | clo f caps => cases hc
  | fnv f caps => cases hc
section
variable {P : Program}
theorem loadK_ok {T : TypeId} {row : List PV} {K : HR → Prop} (h : loadK P T row K) : ∃ x, K ⟨x, none, none⟩ ∧ x.refs = [] ∧
    ∀ (R : Reader) (bx : Nat → Nat) (w : World) (b off : Nat) (us : List Value), RepL R row us → (∀ (i : Nat) (u : Value), us[i]? = some u → w.cell? ⟨b, off + i, none⟩ = some u) →
      ∃ v, (Instr.loadAt T (.pointer (some ⟨b, off, none⟩))).run P w = .ok v w ∧ RepA R bx x v := by
  obtain ⟨d, n, hu, hn, hk⟩ := h
  by_cases hd : d.isRow = true
  · rw [if_pos hd] at hk
    refine ⟨_, hk.2, rfl, fun R bx w b off us hr hc => ?_⟩
    have hl := hr.length
    refine ⟨.agg (us.take n).toArray, ?_, us.take n, rfl, hr.take n⟩
    refine run_loadAt_mid w b off T (us.take n) d (fun j v hv => ?_) hu hd ?_
    · rw [List.getElem?_take] at hv
      split at hv
      · exact hc j v hv
      · cases hv
    · rw [hn, List.length_take, hl, Nat.min_eq_left hk.1]
  · rw [if_neg hd] at hk
    obtain ⟨p, hp, hk⟩ := hk
    have href : p.av.refs = [] := by cases p <;> rfl
    refine ⟨_, hk, href, fun R bx w b off us hr hc => ?_⟩
    obtain ⟨u, hu0, hpu⟩ := hr.get hp
    exact ⟨u, run_load_one w b off T d u (by have := hc 0 u hu0; simpa using this) hu (by simpa using hd), hpu.av⟩
theorem run_field_at (w : World) (T : TypeId) (fs : Array Field) (f : Field) (i n b o : Nat) (hu : P.underlying T = some (.struct fs)) (hf : fs[i]? = some f) (hn : (P.info? f.type).map (·.size) = some (n + 1)) :
    (Instr.fieldAt T (.pointer (some ⟨b, o, none⟩)) i).run P w = .ok (.pointer (some ⟨b, o + f.offset, none⟩)) w := by
  obtain ⟨j, hj, hs⟩ := info_some hn
  simp [Instr.fieldAt, Sem.run_bind, run_underlying hu, hf, Instr.sureAddr, fieldPlace, sizeOf, typeInfo, hj, hs, Addr.add_lit]
theorem run_part (w : World) (T : TypeId) (d : TypeDesc) (n : Nat) (us : List Value) (off : Nat) (hu : P.underlying T = some d) (hn : (P.info? T).map (·.size) = some n) :
    (d.isRow = true → (part T us.toArray off).run P w = .ok (.agg ((us.drop off).take n).toArray) w) ∧ (d.isRow = false → ∀ v, us[off]? = some v → (part T us.toArray off).run P w = .ok v w) := by
  obtain ⟨j, hj, hs⟩ := info_some hn
  constructor
  · intro hd
    have hagg : (isAgg T).run P w = .ok true w := by
      unfold isAgg
      rw [Sem.run_bind, run_underlying hu w]
      cases d <;> simp_all
    simp [part, Sem.run_bind, hagg, sizeOf, typeInfo, hj, hs]
  · intro hd v hv
    have hagg : (isAgg T).run P w = .ok false w := by
      unfold isAgg
      rw [Sem.run_bind, run_underlying hu w]
      cases d <;> simp_all
    simp [part, Sem.run_bind, hagg, hv]
theorem abin_ok {op : BinOp} {u v r : Value} (h : abin op u v = some r) (T : TypeId) (x y : Operand) (w : World) : ((do eqGuard op T x y u v; binOp op T u v) : Sem Value).run P w = .ok r w := by
  unfold abin at h
  split at h
  · split at h
    · rename_i k a k' b hk
      subst hk
      rw [Sem.run_bind, eqGuard_at_int]
      simp only [Sem.run_pure, Result.andThen_ok]
      by_cases hs : op = .shr
      · subst hs
        dsimp only at h
        by_cases hb : b = 1
        · rw [if_pos hb] at h
          cases h
          subst hb
          have := shift_shr k k a 1 (by decide) (by cases k <;> decide)
          simp [binOp, this]
        · rw [if_neg hb] at h
          cases h
      · cases op <;> simp only [] at h <;> first
          | exact absurd rfl hs
          | (cases h; simp [binOp, Op.intArith, Op.intCmp]; done)
          | (split at h
             · cases h
             · rename_i hb; cases h; simp [binOp, Op.intDiv, hb])
          | cases h
    · cases h
  · rename_i a b
    rw [Sem.run_bind, eqGuard_at_string]
    simp only [Sem.run_pure, Result.andThen_ok]
    by_cases hs : op = .add
    · subst hs
      dsimp only at h
      by_cases hb : a.size + b.size ≤ 9223372036854775807
      · rw [if_pos hb] at h
        cases h
        exact run_string_add_sum w _ _ hb
      · rw [if_neg hb] at h
        cases h
    · cases op <;> simp only [] at h <;> first
        | exact absurd rfl hs
        | (cases h; simp [binOp, Op.stringOp]; done)
        | cases h
  · cases h
theorem aun_ok {op : UnOp} {u r : Value} (h : aun op u = some r) (w : World) : (Op.unary op u).run P w = .ok r w := by
  unfold aun at h
  split at h
  · cases op <;> simp only [] at h <;> first | (cases h; rfl) | cases h
  · cases op <;> simp only [] at h <;> first | (cases h; rfl) | cases h
  · cases h
end

end Av
end Go.Proofs.YtcloigoajohppaaGreatDoor
/- Abstract states: calls, and all operations without effects. Generic. -/
namespace Go.Proofs.YtcloigoajohppaaGreatDoor
open Go.RowKit
namespace Av

section
variable {P : Program} {F : Fr} {σ : St} {γ : Gh} {a : Act} {w : World}
theorem Rel.boxcells (h : Rel F σ γ a w) {k : Nat} {cs : List PV} (hk : look σ.box k = some cs) : ∃ us, RepL (rdr F.R0 F.w0.heap.size σ γ w) cs us ∧ ∀ (i : Nat) (u : Value), us[i]? = some u → w.cell? ⟨γ.bx k, i, none⟩ = some u := by
  obtain ⟨us, ty, h1, _, h3⟩ := h.boxes k cs hk
  refine ⟨us, h3, fun i u hu => ?_⟩
  rw [cell_of_row w _ i _ ty (0, 0) h1]
  simpa using hu
theorem Rel.snapE (h : Rel F σ γ a w) {k off : Nat} {cs : List PV} (hk : look σ.box k = some cs) : RepE (fun p => w.cell? p) (cs.drop off) (.pointer (some ⟨γ.bx k, off, none⟩)) := by
  obtain ⟨us, h1, h2⟩ := h.boxcells hk
  exact ⟨_, _, us.drop off, rfl, (h1.drop off).mono (fun _ _ hp => h.cell hp), fun i x hx => h2 _ _ (by rw [List.getElem?_drop] at hx; exact hx)⟩
theorem snapCaps_ok (h : Rel F σ γ a w) {bx : Nat → Option (List PV)} (hbx : ∀ k cs, bx k = some cs → look σ.box k = some cs) : ∀ {caps : List (Nat × Nat)} {r : List (List PV)}, snapCaps bx caps = some r →
    RepEL (fun p => w.cell? p) r (caps.map fun c => Value.pointer (some ⟨γ.bx c.1, c.2, none⟩))
  | [], r, hr => by cases hr; exact .nil
  | c :: caps, r, hr => by
    unfold snapCaps at hr
    split at hr
    · rename_i cs r' h1 h2
      cases hr
      exact .cons (h.snapE (hbx _ _ h1)) (snapCaps_ok h hbx h2)
    · cases hr
theorem snap_ok (h : Rel F σ γ a w) {bx : Nat → Option (List PV)} (hbx : ∀ k cs, bx k = some cs → look σ.box k = some cs) {x x' : AV} {u : Value} (hx : RepA (rdr F.R0 F.w0.heap.size σ γ w) γ.bx x u) (hs : snap bx x = some x') :
    x'.refs = [] ∧ RepA (fun p => w.cell? p) (fun _ => 0) x' u ∧ (x.refs = [] → RepA (rdr F.R0 F.w0.heap.size σ γ w) (fun _ => 0) x' u) := by
  have same : x.refs = [] → x' = x → x'.refs = [] ∧ RepA (fun p => w.cell? p) (fun _ => 0) x' u ∧ (x.refs = [] → RepA (rdr F.R0 F.w0.heap.size σ γ w) (fun _ => 0) x' u) := fun h1 h2 => by
    subst h2
    exact ⟨h1, hx.mono (fun _ _ hp => h.cell hp) (fun k hk => by rw [h1] at hk; cases hk), fun _ => hx.free h1⟩
  cases x with
  | v y => exact same rfl (by cases hs; rfl)
  | sl sz rows => exact same rfl (by cases hs; rfl)
  | agg xs => exact same rfl (by cases hs; rfl)
  | tup vs => cases hs
  | ref k off =>
    simp only [snap] at hs
    cases hk : bx k with
    | none => rw [hk] at hs; cases hs
    | some cs =>
      rw [hk] at hs
      cases hs
      rw [show u = _ from hx]
      exact ⟨rfl, h.snapE (hbx _ _ hk), fun h => by cases h⟩
  | ept row => exact same rfl (by cases hs; rfl)
  | clo f caps =>
    simp only [snap] at hs
    cases hk : snapCaps bx caps with
    | none => rw [hk] at hs; cases hs
    | some r =>
      rw [hk] at hs
      cases hs
      refine ⟨rfl, ⟨_, hx, snapCaps_ok h hbx hk⟩, fun h => ?_⟩
      have : caps = [] := by simpa [AV.refs] using h
      subst this
      cases hk
      exact ⟨[], hx, .nil⟩
  | fnv f caps => exact same rfl (by cases hs; rfl)
inductive Reps (R : Reader) (σ : St) (bx : Nat → Nat) : List AV → List Value → Prop
  | nil : Reps R σ bx [] []
  | cons {x : AV} {u : Value} {xs : List AV} {us : List Value} (h : RepA R bx x u) (hr : ∀ k ∈ x.refs, (look σ.box k).isSome) (t : Reps R σ bx xs us) : Reps R σ bx (x :: xs) (u :: us)
theorem evos_ok (h : Rel F σ γ a w) {g : Nat → Option AV} : ∀ {l : List Operand} {vs : List AV}, (∀ t y, Operand.tmp t ∈ l → g t = some y → look σ.slot t = some y) → evos g l = some vs →
    Reps (rdr F.R0 F.w0.heap.size σ γ w) σ γ.bx vs (l.map a.eval)
  | [], vs, _, he => by cases he; exact .nil
  | x :: l, vs, hg, he => by
    unfold evos at he
    split at he
    · rename_i v vs' h1 h2
      cases he
      obtain ⟨h3, h4⟩ := evo_ok h (fun t y ht => hg t y (by rw [ht]; exact List.mem_cons_self)) h1
      exact .cons h3 h4 (evos_ok h (fun t y ht => hg t y (List.mem_cons_of_mem _ ht)) h2)
    · cases he
theorem snaps_ok (h : Rel F σ γ a w) {bx : Nat → Option (List PV)} (hbx : ∀ k cs, bx k = some cs → look σ.box k = some cs) : ∀ {vs vs' : List AV} {us : List Value}, Reps (rdr F.R0 F.w0.heap.size σ γ w) σ γ.bx vs us → snaps bx vs = some vs' →
    RepAL (fun p => w.cell? p) vs' us ∧ ((vs.all fun x => x.refs.isEmpty) = true → RepAL (rdr F.R0 F.w0.heap.size σ γ w) vs' us)
  | [], vs', us, hr, hs => by
    cases hr
    cases hs
    exact ⟨.nil, fun _ => .nil⟩
  | x :: vs, vs', us, hr, hs => by
    cases hr with
    | cons h1 h2 h3 =>
      unfold snaps at hs
      split at hs
      · rename_i v vs'' h4 h5
        cases hs
        obtain ⟨g1, g2, g3⟩ := snap_ok h hbx h1 h4
        obtain ⟨g4, g5⟩ := snaps_ok h hbx h3 h5
        refine ⟨.cons g2 g1 g4, fun hall => ?_⟩
        rw [List.all_cons, Bool.and_eq_true] at hall
        exact .cons (g3 (by simpa using hall.1)) g1 (g5 hall.2)
      · cases hs
theorem lit_any {R R' : Reader} {bx bx' : Nat → Nat} {x : AV} {u : Value} (hl : x.lit = true) (h : RepA R bx x u) : RepA R' bx' x u := by
  cases x with
  | v y => exact h
  | tup vs =>
    obtain ⟨us, e, h⟩ := h
    refine ⟨us, e, ?_⟩
    simp only [AV.lit] at hl
    clear e
    induction h with
    | nil => exact .nil
    | cons h _ ih =>
      rw [List.all_cons, Bool.and_eq_true] at hl
      refine .cons ?_ (ih hl.2)
      cases h with
      | c h => cases h with
        | v _ h => exact .c (.v _ h)
        | sl => simp at hl
      | g => simp at hl
  | sl => cases hl
  | agg => cases hl
  | ref => cases hl
  | ept => cases hl
  | clo => cases hl
  | fnv => cases hl
theorem fresh_le (h : Rel F σ γ a w) {w1 : World} (hb : Below w.heap.size w w1) : ∀ p v, fresh (rdr F.R0 F.w0.heap.size σ γ w) w w1 none 0 p = some v → rdr F.R0 F.w0.heap.size σ γ w1 p = some v := by
  intro p v hp
  unfold fresh at hp
  by_cases hlt : p.block < w.heap.size
  · rw [if_pos hlt] at hp; exact grow_le hb p v hp
  · rw [if_neg hlt, if_neg (by rintro ⟨h1, _⟩; cases h1)] at hp
    unfold rdr
    have := h.base
    rw [if_neg (by omega), if_neg ?_]
    · exact hp
    · rintro (⟨k, cs, hk, hpk⟩ | ⟨L, e, sz, rows, h1, h2, h3, h4⟩ | hx)
      · have := (h.box_lt (k := k) (by rw [hk]; rfl)).1; omega
      · have := (h.row_lt (L := L) (by rw [h1]; rfl) h3).1; omega
      · have := (h.extf _ (σ.ext.mutb hx)).2.1; omega
theorem Rel.call (h : Rel F σ γ a w) {w1 : World} (hb : Below w.heap.size w w1) {d : Nat} (hd : d < F.n) {res : FRes} {u : Value} (hr : ResRep (rdr F.R0 F.w0.heap.size σ γ w) w w1 res u) :
    ∃ γ', (∀ k, γ'.bx k = γ.bx k) ∧ Rel F (σ.res d ⟨res.av, none, res.own⟩) γ' (a.put (some d) u) w1 := by
  obtain ⟨x, own⟩ := res
  cases own with
  | none =>
    obtain ⟨h1, h2⟩ := hr
    exact ⟨γ, fun _ => rfl, (h.grow hb).put hd ((h2.free h1).mono (fresh_le h hb) (fun _ _ => rfl)) (fun k hk => by rw [show x.refs = [] from h1] at hk; cases hk)⟩
  | some e =>
    cases x with
    | sl sz rows =>
      obtain ⟨q, h1, h2⟩ := hr
      refine ⟨γ.setRow (.s d) q, fun _ => rfl, ?_⟩
      have := h.row (d := d) hd (s := none) (sz := sz) (rows := rows) (e := e) (v := u) (q := q) hb.os hb.tape hb.output hb.size (fun k hk _ => hb.block k hk) (fun t ht => by cases ht)
        (fun g hg => .inl (by rw [hg] at h1; exact h1.lt.1)) (h1.low h.base) (RepP.mono (fun p v hp => ?_) h2)
      · exact this
      · unfold fresh at hp
        by_cases hlt : p.block < w.heap.size
        · rw [if_pos hlt] at hp
          rw [if_pos (by rw [hp]; rfl)]
          exact hp
        · rw [if_neg hlt] at hp
          have hnone : rdr F.R0 F.w0.heap.size σ γ w p = none := by
            cases hq : rdr F.R0 F.w0.heap.size σ γ w p with
            | none => rfl
            | some z => exact absurd (Rel.cell_lt (h.cell hq)) hlt
          rw [hnone, if_neg (by simp)]
          by_cases hqp : q = some p.block
          · by_cases hoff : rows.length * sz ≤ p.off
            · rw [if_pos ⟨hqp, hoff⟩] at hp; cases hp
            · rw [if_neg (fun e => hoff e.2)] at hp
              rw [if_pos ⟨hqp, by omega⟩]
              exact hp
          · rw [if_neg (fun e => hqp e.1)] at hp
            rw [if_neg (fun e => hqp e.1), if_neg (fun e => e.elim hlt hqp)]
            exact hp
    | v => cases hr
    | agg => cases hr
    | tup => cases hr
    | ref => cases hr
    | ept => cases hr
    | clo => cases hr
    | fnv => cases hr
theorem run_callFunc {f : FuncId} (h : Enters P f) (args : Array Value) (w : World) : (callFunc f args).run P w = .ok (.enter f args) w := by
  obtain ⟨fn, c, hf, hname, hb⟩ := h
  have h1 : fn.name ≠ "runtime.NumGoroutine" := by simpa using hname
  simp [callFunc, hf, h1, hb]
theorem RepEL.al {R : Reader} {caps : List (List PV)} {us : List Value} (h : RepEL R caps us) : RepAL R (caps.map .ept) us := by
  induction h with
  | nil => exact .nil
  | cons h _ ih => exact .cons h rfl ih
end

end Av
end Go.Proofs.YtcloigoajohppaaGreatDoor
/- Abstract states: hop is sound. Generic. -/
namespace Go.Proofs.YtcloigoajohppaaGreatDoor
open Go.RowKit
namespace Av

section
variable {P : Program} {F : Fr}
theorem capRefs_ok {σ : St} {γ : Gh} {a : Act} {w : World} (h : Rel F σ γ a w) {g : Nat → Option AV} : ∀ {l : List Operand} {cs : List (Nat × Nat)}, (∀ t y, Operand.tmp t ∈ l → g t = some y → look σ.slot t = some y) → capRefs g l = some cs →
    l.map a.eval = (cs.map fun c => Value.pointer (some ⟨γ.bx c.1, c.2, none⟩)) ∧ ∀ c ∈ cs, (look σ.box c.1).isSome
  | [], cs, _, he => by cases he; exact ⟨rfl, fun c hc => by cases hc⟩
  | x :: l, cs, hg, he => by
    unfold capRefs at he
    split at he
    · rename_i k off r h1 h2
      cases he
      obtain ⟨h3, h4⟩ := evo_ok h (fun t y ht => hg t y (by rw [ht]; exact List.mem_cons_self)) h1
      obtain ⟨h5, h6⟩ := capRefs_ok h (fun t y ht => hg t y (List.mem_cons_of_mem _ ht)) h2
      refine ⟨by rw [List.map_cons, List.map_cons, h5, show a.eval x = _ from h3], fun c hc => ?_⟩
      rcases List.mem_cons.1 hc with rfl | hc
      · exact h4 _ (by simp [AV.refs])
      · exact h6 c hc
    · cases he
theorem bound_ok {σ : St} {γ : Gh} {a : Act} {w : World} (h : Rel F σ γ a w) {g : Nat → Option AV} {x : Option Operand} {dflt n : Nat} (hg : ∀ o, x = some o → ∀ t y, o = .tmp t → g t = some y → look σ.slot t = some y) (hb : bound g dflt x n) :
    (x = none ∧ n = dflt) ∨ ∃ o k i, x = some o ∧ a.eval o = .int k i ∧ 0 ≤ i ∧ n = i.toNat := by
  cases x with
  | none => exact .inl ⟨rfl, hb⟩
  | some o =>
    obtain ⟨k, i, h1, h2, h3⟩ := hb
    exact .inr ⟨o, k, i, rfl, (evo_ok h (hg o rfl) h1).1, h2, h3⟩
theorem run_bounds (isSlice : Bool) (len cap : Nat) (lo hi : Option Value) (l h : Nat) (w : World) (hlo : (lo = none ∧ l = 0) ∨ ∃ k i, lo = some (.int k i) ∧ 0 ≤ i ∧ l = i.toNat) (hhi : (hi = none ∧ h = len) ∨ ∃ k i, hi = some (.int k i) ∧ 0 ≤ i ∧ h = i.toNat) (h1 : l ≤ h) (h2 : h ≤ cap) :
    (Instr.sliceBounds isSlice len cap lo hi none).run P w = .ok (l, h, cap) w := by
  rcases hlo with ⟨rfl, rfl⟩ | ⟨k, i, rfl, hi0, rfl⟩ <;> rcases hhi with ⟨rfl, rfl⟩ | ⟨k', j, rfl, hj0, rfl⟩
  · simp [Instr.sliceBounds]
  · simp [Instr.sliceBounds, Instr.sliceBound, asIntOf, hj0, show j ≤ (cap : Int) by omega]
  · have e1 : i ≤ ((h : Nat) : Int) := by omega
    simp [Instr.sliceBounds, Instr.sliceBound, asIntOf, hi0, e1]
  · have e1 : ¬ (max j 0 < i) := by omega
    simp [Instr.sliceBounds, Instr.sliceBound, asIntOf, hi0, hj0, show j ≤ (cap : Int) by omega, e1]
theorem rows_slice {R : Reader} {sz : Nat} {rows : List (List PV)} {u : Value} (h : RepP R (.sl sz rows) u) {l hh : Nat} (h1 : l ≤ hh) (h2 : hh ≤ rows.length) :
    ∃ A cap, u = .slice A rows.length cap ∧ rows.length ≤ cap ∧ RepP R (.sl sz ((rows.take hh).drop l)) (.slice (if cap = l then A else A.map (·.add (l * sz))) (hh - l) (cap - l)) := by
  cases h with
  | sl _ _ A cap f hsz hA hf hc =>
    refine ⟨A, cap, rfl, hc, ?_⟩
    have hlen : ((rows.take hh).drop l).length = hh - l := by simp; omega
    have hget : ∀ (k : Nat) (row : List PV), ((rows.take hh).drop l)[k]? = some row → rows[l + k]? = some row := fun k row hk => by
      rw [List.getElem?_drop, List.getElem?_take] at hk
      split at hk
      · exact hk
      · cases hk
    rw [← hlen]
    refine .sl sz _ _ _ (fun k j => f (l + k) j) (fun k row hk => hsz _ row (hget k row hk)) ?_ (fun k row j p hk hj => hf _ row j p (hget k row hk) hj) (by omega)
    rcases hA with h0 | ⟨b, off, rfl, hA⟩
    · left; rw [h0]; simp
    · by_cases he : (rows.take hh).drop l = []
      · exact .inl he
      · right
        by_cases hcl : cap = l
        · exfalso
          apply he
          apply List.eq_nil_of_length_eq_zero
          omega
        · refine ⟨b, off + l * sz, by rw [if_neg hcl, Option.map_some, Addr.add_mid], fun k row j p hk hj => ?_⟩
          have := hA (l + k) row j p (hget k row hk) hj
          rw [show off + l * sz + k * sz + j = off + (l + k) * sz + j by rw [Nat.add_mul]; omega]
          exact this

theorem RepCL.get {R : Reader} {ps : List CV} {us : List Value} (h : RepCL R ps us) : ∀ {i : Nat} {p : CV}, ps[i]? = some p → ∃ u, us[i]? = some u ∧ RepC R p u := by
  induction h with
  | nil => intro i p hp; simp at hp
  | cons h _ ih =>
    intro i p hp
    cases i with
    | zero => simp at hp; subst hp; exact ⟨_, rfl, h⟩
    | succ i => simpa using ih (by simpa using hp)
theorem call_ok {σ : St} {γ : Gh} {a : Act} {w : World} {o : Oper} {d : Nat} (h : Rel F σ γ a w) (hd : o.dst = some d) (hdn : d < F.n) {f : Operand} {args : Array Operand} {ats : Array TypeId} (ho : o.op = .call { callee := .value f, args := args, argTypes := ats })
    {g : Nat → Option AV} {bx : Nat → Option (List PV)} (hg : ∀ t y, Operand.tmp t ∈ o.op.operands.toList → g t = some y → look σ.slot t = some y) (hbx : ∀ k cs, bx k = some cs → look σ.box k = some cs)
    {fv : AV} {fid : Nat} {caps : List (List PV)} {avs avs' : List AV} {res : FRes} (h1 : evo g f = some fv) (h2 : snap bx fv = some (.fnv fid caps)) (h3 : evos g args.toList = some avs) (h4 : snaps bx avs = some avs') (h5 : FnOK P fid (avs' ++ caps.map AV.ept) res)
    (h6 : ((fv :: avs).all fun x => x.refs.isEmpty) = true ∨ (res.av.lit = true ∧ res.own = none)) (Q : Exit → Act → World → Prop) : o.wp P a w (Stp P F σ γ a w o d (σ.res d ⟨res.av, none, res.own⟩)) Q := by
  obtain ⟨henter, hcall⟩ := h5
  obtain ⟨g1, g2⟩ := evo_ok h (fun t y ht => hg t y (by rw [ho, ht]; simp [Op.operands, Call.operands])) h1
  obtain ⟨_, g3, g4⟩ := snap_ok h hbx g1 h2
  obtain ⟨us, gv, g5⟩ := g3
  have gA := evos_ok h (fun t y ht => hg t y (by rw [ho]; simp [Op.operands, Call.operands]; right; simpa using ht)) h3
  obtain ⟨g6, g7⟩ := snaps_ok h hbx gA h4
  have hrun : (execOp a.eval o).run P w = .ok (.enter fid (args.map a.eval ++ us.toArray)) w := by
    simp [execOp, ho, resolve, gv, Deferred.ofValue, invoke, run_callFunc henter]
  have hargs : args.map a.eval ++ us.toArray = (args.toList.map a.eval ++ us).toArray := by
    obtain ⟨l⟩ := args
    simp
  unfold Oper.wp
  rw [hrun, Oper.upon_enter, hargs, hd]
  by_cases hall : ((fv :: avs).all fun x => x.refs.isEmpty) = true
  · have hall' := hall
    rw [List.all_cons, Bool.and_eq_true] at hall'
    obtain ⟨us', gv', g8⟩ := g4 (by simpa using hall'.1)
    have : us' = us := by
      rw [gv] at gv'
      simpa using gv'.symm
    subst this
    refine (hcall w _ (fun p v hp => h.cell hp) _ ((g7 hall'.2).append g8.al)).mono ?_
    rintro e w1 ⟨u, rfl, hb, hr⟩
    obtain ⟨γ', hγ, hrel⟩ := h.call hb hdn hr
    exact ⟨γ', u, rfl, hb, fun k _ => hγ k, hrel, fun g S _ hs => by simp [src, ho] at hs⟩
  · obtain ⟨hl, ho'⟩ := h6.resolve_left hall
    refine (hcall w (fun p => w.cell? p) (fun _ _ hp => hp) _ (g6.append g5.al)).mono ?_
    rintro e w1 ⟨u, rfl, hb, hr⟩
    have hr' : ResRep (rdr F.R0 F.w0.heap.size σ γ w) w w1 res u := by
      obtain ⟨x, own⟩ := res
      subst ho'
      exact ⟨hr.1, lit_any hl hr.2⟩
    obtain ⟨γ', hγ, hrel⟩ := h.call hb hdn hr'
    exact ⟨γ', u, rfl, hb, fun k _ => hγ k, hrel, fun g S _ hs => by simp [src, ho] at hs⟩

theorem hop_sound {o : Oper} {K : HR → Prop} {g : Nat → Option AV} {bx : Nat → Option (List PV)} (hh : hop P g bx o K) {d : Nat} (hd : o.dst = some d) (hdn : d < F.n) :
    ∃ r, K r ∧ ∀ σ γ a w, Rel F σ γ a w → (∀ t y, Operand.tmp t ∈ o.op.operands.toList → g t = some y → look σ.slot t = some y) → (∀ k cs, bx k = some cs → look σ.box k = some cs) → (bx d = none → look σ.box d = none) →
      ∀ Q, o.wp P a w (Stp P F σ γ a w o d (σ.res d r)) Q := by
  unfold hop at hh
  split at hh
  case h_1 x ho =>
    obtain ⟨v, h1, h2⟩ := hh
    refine ⟨_, h2, fun σ γ a w h hg hbx hbd Q => ?_⟩
    obtain ⟨h3, h4⟩ := evo_ok h (fun t y ht => hg t y (by rw [ho]; simp [Op.operands, ht])) h1
    exact pure_ok h hd hdn (by simp [execOp, ho]) h3 h4
  case h_2 x ho =>
    obtain ⟨v, h1, h2⟩ := hh
    refine ⟨_, h2, fun σ γ a w h hg hbx hbd Q => ?_⟩
    obtain ⟨h3, h4⟩ := evo_ok h (fun t y ht => hg t y (by rw [ho]; simp [Op.operands, ht])) h1
    exact pure_ok h hd hdn (by simp [execOp, ho]) h3 h4
  case h_3 c x y ho =>
    obtain ⟨t, v, h0, h1, h2⟩ := hh
    refine ⟨_, h2, fun σ γ a w h hg hbx hbd Q => ?_⟩
    obtain ⟨h3, h4⟩ := evo_ok h (x := if t = true then x else y) (fun u y' ht => hg u y' (by rw [ho]; cases t <;> simp_all [Op.operands])) h1
    have h5 : a.eval c = .bool t := (evo_ok h (fun u y' ht => hg u y' (by rw [ho]; simp [Op.operands, ht])) h0).1
    refine pure_ok h hd hdn ?_ h3 h4
    simp only [execOp, ho, h5, asBool, Sem.run_bind, Sem.run_pure, Result.andThen_ok]
    cases t <;> rfl
  case h_4 T x ho =>
    obtain ⟨v, cs, d', h1, h2, h3, h4, h5⟩ := hh
    rw [hd] at h3
    cases h3
    refine ⟨_, h5, fun σ γ a w h hg hbx hbd Q => ?_⟩
    obtain ⟨h6, _⟩ := evo_ok h (fun t y ht => hg t y (by rw [ho]; simp [Op.operands, ht])) h1
    have h7 := avCells_ok h6 h2
    refine box_ok h hd hdn (hbd h4) (us := (a.eval x).cells.toList) (ty := T) (fun g => by simp [src, ho]) ?_ h7
    simp only [execOp, ho, Instr.box, newVar, newRow, newObj, Sem.run_bind, Sem.run, Sem.run_pure, Result.andThen_ok, Array.toArray_toList]
    rfl
  case h_5 T ho =>
    obtain ⟨z, d', h1, h2, h3, h4, h5⟩ := hh
    rw [hd] at h3
    cases h3
    refine ⟨_, h5, fun σ γ a w h hg hbx hbd Q => ?_⟩
    obtain ⟨i, hi, hz⟩ := info_some h1
    refine box_ok h hd hdn (hbd h4) (us := z.cells.toList) (ty := T) (fun g => by simp [src, ho]) ?_ ?_
    · simp only [execOp, ho, Instr.alloc, zeroValue, typeInfo, newVar, newRow, newObj, program, Sem.run_bind, Sem.run, Sem.run_pure, Result.andThen_ok, Array.toArray_toList, hi, hz]
      rfl
    · rw [List.all_eq_true] at h2
      refine RepL.of (by simp) fun i p u hp hu => ?_
      rw [List.getElem?_map, hu] at hp
      cases hp
      exact .v u (h2 u (List.mem_of_getElem? hu))
  case h_6 T x ho =>
    have hmem : ∀ {σ : St} {a : Act}, (∀ t y, Operand.tmp t ∈ o.op.operands.toList → g t = some y → look σ.slot t = some y) → ∀ t y, x = .tmp t → g t = some y → look σ.slot t = some y := fun hg t y ht => hg t y (by rw [ho]; simp [Op.operands, ht])
    split at hh
    · rename_i k off he
      obtain ⟨cs, h1, h2⟩ := hh
      obtain ⟨v, h3, h4, h5⟩ := loadK_ok h2
      refine ⟨_, h3, fun σ γ a w h hg hbx hbd Q => ?_⟩
      obtain ⟨h6, _⟩ := evo_ok h (hmem (a := a) hg) he
      obtain ⟨us, h7, h8⟩ := h.boxcells (hbx _ _ h1)
      obtain ⟨u, h9, h10⟩ := h5 _ γ.bx w (γ.bx k) off (us.drop off) (h7.drop off) (fun i u hu => h8 _ _ (by rw [List.getElem?_drop] at hu; exact hu))
      refine pure_ok h hd hdn ?_ h10 (fun k hk => by rw [h4] at hk; cases hk)
      simp only [execOp, ho, show a.eval x = _ from h6, Sem.run_bind, h9, Sem.run_pure, Result.andThen_ok]
    · rename_i row he
      obtain ⟨v, h3, h4, h5⟩ := loadK_ok hh
      refine ⟨_, h3, fun σ γ a w h hg hbx hbd Q => ?_⟩
      obtain ⟨h6, _⟩ := evo_ok h (hmem (a := a) hg) he
      obtain ⟨b, off, us, h7, h8, h9⟩ := h6
      obtain ⟨u, h10, h11⟩ := h5 _ γ.bx w b off us h8 (fun i u hu => h.cell (h9 i u hu))
      refine pure_ok h hd hdn ?_ h11 (fun k hk => by rw [h4] at hk; cases hk)
      simp only [execOp, ho, h7, Sem.run_bind, h10, Sem.run_pure, Result.andThen_ok]
    · cases hh
  case h_7 T x i ho =>
    obtain ⟨fs, f, n0, h1, h2, h3, h30, hh⟩ := hh
    obtain ⟨n, rfl⟩ : ∃ n, n0 = n + 1 := ⟨n0 - 1, by omega⟩
    have hmem : ∀ {σ : St} {a : Act}, (∀ t y, Operand.tmp t ∈ o.op.operands.toList → g t = some y → look σ.slot t = some y) → ∀ t y, x = .tmp t → g t = some y → look σ.slot t = some y := fun hg t y ht => hg t y (by rw [ho]; simp [Op.operands, ht])
    split at hh
    · rename_i k off he
      refine ⟨_, hh, fun σ γ a w h hg hbx hbd Q => ?_⟩
      obtain ⟨h6, h7⟩ := evo_ok h (hmem (a := a) hg) he
      refine pure_ok h hd hdn (u := .pointer (some ⟨γ.bx k, off + f.offset, none⟩)) ?_ rfl h7
      simp only [execOp, ho, show a.eval x = _ from h6, Sem.run_bind, run_field_at w T fs f i n _ _ h1 h2 h3, Sem.run_pure, Result.andThen_ok]
    · rename_i row he
      refine ⟨_, hh, fun σ γ a w h hg hbx hbd Q => ?_⟩
      obtain ⟨h6, _⟩ := evo_ok h (hmem (a := a) hg) he
      obtain ⟨b, off, us, h7, h8, h9⟩ := h6
      refine pure_ok h hd hdn (u := .pointer (some ⟨b, off + f.offset, none⟩)) ?_ ⟨b, off + f.offset, us.drop f.offset, rfl, h8.drop _, fun j y hy => ?_⟩ (fun k hk => by cases hk)
      · simp only [execOp, ho, h7, Sem.run_bind, run_field_at w T fs f i n _ _ h1 h2 h3, Sem.run_pure, Result.andThen_ok]
      · rw [List.getElem?_drop] at hy
        rw [Nat.add_assoc]
        exact h9 _ _ hy
    · cases hh
  case h_8 T x i ho =>
    obtain ⟨fs, f, dd, n, xs, h1, h2, h3, h4, h5, hh⟩ := hh
    have hev : ∀ {σ γ a w}, Rel F σ γ a w → (∀ t y, Operand.tmp t ∈ o.op.operands.toList → g t = some y → look σ.slot t = some y) → ∃ us, a.eval x = .agg us.toArray ∧ RepL (rdr F.R0 F.w0.heap.size σ γ w) xs us := fun h hg =>
      (evo_ok h (fun t y ht => hg t y (by rw [ho]; simp [Op.operands, ht])) h5).1
    by_cases hrow : dd.isRow = true
    · rw [if_pos hrow] at hh
      refine ⟨_, hh, fun σ γ a w h hg hbx hbd Q => ?_⟩
      obtain ⟨us, h6, h7⟩ := hev h hg
      refine pure_ok h hd hdn (u := .agg ((us.drop f.offset).take n).toArray) ?_ ⟨_, rfl, (h7.drop _).take n⟩ (fun k hk => by cases hk)
      simp [execOp, ho, h6, Instr.field, run_underlying h1, h2, asAgg, (run_part (P := P) w f.type dd n us f.offset h3 h4).1 hrow]
    · rw [if_neg hrow] at hh
      obtain ⟨p, h6, hh⟩ := hh
      refine ⟨_, hh, fun σ γ a w h hg hbx hbd Q => ?_⟩
      obtain ⟨us, h7, h8⟩ := hev h hg
      obtain ⟨u, h9, h10⟩ := h8.get h6
      refine pure_ok h hd hdn (u := u) ?_ h10.av (fun k hk => by cases p <;> cases hk)
      simp [execOp, ho, h7, Instr.field, run_underlying h1, h2, asAgg, (run_part (P := P) w f.type dd n us f.offset h3 h4).2 (by simpa using hrow) u h9]
  case h_9 T x ix ho =>
    obtain ⟨k, i, h1, h2, hh⟩ := hh
    have hix : ∀ {σ γ a w}, Rel F σ γ a w → (∀ t y, Operand.tmp t ∈ o.op.operands.toList → g t = some y → look σ.slot t = some y) → a.eval ix = .int k i := fun h hg =>
      (evo_ok h (fun t y ht => hg t y (by rw [ho]; simp [Op.operands, ht])) h1).1
    have hmem : ∀ {σ : St} {a : Act}, (∀ t y, Operand.tmp t ∈ o.op.operands.toList → g t = some y → look σ.slot t = some y) → ∀ t y, x = .tmp t → g t = some y → look σ.slot t = some y := fun hg t y ht => hg t y (by rw [ho]; simp [Op.operands, ht])
    split at hh
    · rename_i e hu
      obtain ⟨sz, rows, row, h3, h4, h5, hh⟩ := hh
      refine ⟨_, hh, fun σ γ a w h hg hbx hbd Q => ?_⟩
      obtain ⟨h6, _⟩ := evo_ok h (hmem (a := a) hg) h3
      have h6' : RepP _ (.sl sz rows) (a.eval x) := h6
      obtain ⟨j, hj, hs⟩ := info_some h4
      have hlt : i.toNat < rows.length := (List.getElem?_eq_some_iff.1 h5).1
      cases hv : a.eval x with
      | slice A len cap =>
        rw [hv] at h6'
        cases h6' with
        | sl _ _ _ _ f hsz hA hf hc =>
          rcases hA with h0 | ⟨b, off, rfl, hA⟩
          · rw [h0] at h5; simp at h5
          · have hrl := hsz _ _ h5
            refine pure_ok h hd hdn (u := .pointer (some ⟨b, off + i.toNat * sz, none⟩)) ?_ ⟨b, off + i.toNat * sz, (List.range row.length).map (f i.toNat), rfl, ?_, fun q y hy => ?_⟩ (fun k hk => by cases hk)
            · simp [execOp, ho, hv, hix h hg, Instr.indexAt, run_underlying hu, asIntOf, h2, show i < (rows.length : Int) by omega, sizeOf, typeInfo, hj, hs, Addr.add_lit]
            · refine RepL.of (by simp) fun q p u hp hu' => ?_
              have hq : q < row.length := (List.getElem?_eq_some_iff.1 hp).1
              simp [hq] at hu'
              subst hu'
              exact hf _ row q p h5 hp
            · have hq : q < row.length := by
                rcases Nat.lt_or_ge q row.length with h' | h'
                · exact h'
                · rw [List.getElem?_eq_none (by simpa using h')] at hy; cases hy
              simp [hq] at hy
              subst hy
              exact hA _ row q row[q] h5 (List.getElem?_eq_getElem hq)
      | bool => rw [hv] at h6'; cases h6'
      | int => rw [hv] at h6'; cases h6'
      | float => rw [hv] at h6'; cases h6'
      | complex => rw [hv] at h6'; cases h6'
      | string => rw [hv] at h6'; cases h6'
      | pointer => rw [hv] at h6'; cases h6'
      | map => rw [hv] at h6'; cases h6'
      | chan => rw [hv] at h6'; cases h6'
      | func => rw [hv] at h6'; cases h6'
      | nilFunc => rw [hv] at h6'; cases h6'
      | iface => rw [hv] at h6'; cases h6'
      | nilIface => rw [hv] at h6'; cases h6'
      | agg => rw [hv] at h6'; cases h6'
      | tuple => rw [hv] at h6'; cases h6'
    · rename_i n e hu
      obtain ⟨sz, h4, h5, hh⟩ := hh
      obtain ⟨j, hj, hs⟩ := info_some h4
      split at hh
      · rename_i k' off he
        refine ⟨_, hh, fun σ γ a w h hg hbx hbd Q => ?_⟩
        obtain ⟨h6, h7⟩ := evo_ok h (hmem (a := a) hg) he
        refine pure_ok h hd hdn (u := .pointer (some ⟨γ.bx k', off + i.toNat * sz, none⟩)) ?_ rfl h7
        simp [execOp, ho, show a.eval x = _ from h6, hix h hg, Instr.indexAt, run_underlying hu, asIntOf, Instr.sureAddr, h2, h5, sizeOf, typeInfo, hj, hs, Addr.add_lit]
      · rename_i row he
        refine ⟨_, hh, fun σ γ a w h hg hbx hbd Q => ?_⟩
        obtain ⟨h6, _⟩ := evo_ok h (hmem (a := a) hg) he
        obtain ⟨b, off, us, h7, h8, h9⟩ := h6
        refine pure_ok h hd hdn (u := .pointer (some ⟨b, off + i.toNat * sz, none⟩)) ?_ ⟨b, off + i.toNat * sz, us.drop (i.toNat * sz), rfl, h8.drop _, fun j y hy => ?_⟩ (fun k hk => by cases hk)
        · simp [execOp, ho, h7, hix h hg, Instr.indexAt, run_underlying hu, asIntOf, Instr.sureAddr, h2, h5, sizeOf, typeInfo, hj, hs, Addr.add_lit]
        · rw [List.getElem?_drop] at hy
          rw [Nat.add_assoc]
          exact h9 _ _ hy
      · cases hh
    · cases hh
  case h_10 T x lo hi mx ho =>
    obtain ⟨rfl, hh⟩ := hh
    have hmem : ∀ {σ : St} {a : Act}, (∀ t y, Operand.tmp t ∈ o.op.operands.toList → g t = some y → look σ.slot t = some y) → ∀ t y, x = .tmp t → g t = some y → look σ.slot t = some y := fun hg t y ht => hg t y (by rw [ho]; simp [Op.operands, ht])
    have hlo : ∀ {σ : St} {a : Act}, (∀ t y, Operand.tmp t ∈ o.op.operands.toList → g t = some y → look σ.slot t = some y) → ∀ z, lo = some z → ∀ t y, z = .tmp t → g t = some y → look σ.slot t = some y := fun hg z hz t y ht => hg t y (by rw [ho, hz, ht]; simp [Op.operands])
    have hhi : ∀ {σ : St} {a : Act}, (∀ t y, Operand.tmp t ∈ o.op.operands.toList → g t = some y → look σ.slot t = some y) → ∀ z, hi = some z → ∀ t y, z = .tmp t → g t = some y → look σ.slot t = some y := fun hg z hz t y ht => hg t y (by rw [ho, hz, ht]; simp [Op.operands])
    have val : ∀ {a : Act} {q : Option Operand} {n m : Nat}, ((q = none ∧ n = m) ∨ ∃ o k i, q = some o ∧ a.eval o = .int k i ∧ 0 ≤ i ∧ n = i.toNat) → (q.map a.eval = none ∧ n = m) ∨ ∃ k i, q.map a.eval = some (.int k i) ∧ 0 ≤ i ∧ n = i.toNat := fun hq => by
      rcases hq with ⟨rfl, rfl⟩ | ⟨o, k, i, rfl, h1, h2, h3⟩
      · exact .inl ⟨rfl, rfl⟩
      · exact .inr ⟨k, i, by simp [h1], h2, h3⟩
    split at hh
    · rename_i e hu
      obtain ⟨sz, rows, l, hI, h1, h2, h3, h4, h5, h6, hh⟩ := hh
      refine ⟨_, hh, fun σ γ a w h hg hbx hbd Q => ?_⟩
      obtain ⟨h7, _⟩ := evo_ok h (hmem (a := a) hg) h1
      obtain ⟨A, cap, h8, h9, h10⟩ := rows_slice h7 h5 h6
      have hb := run_bounds (P := P) true rows.length cap (lo.map a.eval) (hi.map a.eval) l hI w (val (bound_ok h (hlo (a := a) hg) h3)) (val (bound_ok h (hhi (a := a) hg) h4)) h5 (Nat.le_trans h6 h9)
      obtain ⟨j, hj, hs⟩ := info_some h2
      refine pure_ok h hd hdn (u := .slice (if cap = l then A else A.map (·.add (l * sz))) (hI - l) (cap - l)) ?_ h10 (fun k hk => by cases hk)
      simp [execOp, ho, h8, Instr.sliceAt, Instr.slice, run_underlying hu, hb, sizeOf, typeInfo, hj, hs]
    · rename_i hu
      obtain ⟨s, l, hI, h1, h3, h4, h5, h6, hh⟩ := hh
      refine ⟨_, hh, fun σ γ a w h hg hbx hbd Q => ?_⟩
      obtain ⟨h7, _⟩ := evo_ok h (hmem (a := a) hg) h1
      have hb := run_bounds (P := P) false s.size s.size (lo.map a.eval) (hi.map a.eval) l hI w (val (bound_ok h (hlo (a := a) hg) h3)) (val (bound_ok h (hhi (a := a) hg) h4)) h5 h6
      refine pure_ok h hd hdn (u := .string (s.extract l hI)) ?_ rfl (fun k hk => by cases hk)
      simp [execOp, ho, show a.eval x = _ from h7, Instr.sliceAt, Instr.slice, run_underlying hu, hb]
    · cases hh
  case h_11 T x ix ho =>
    obtain ⟨k, i, s, c, h1, h2, h3, h4, h5, hh⟩ := hh
    refine ⟨_, hh, fun σ γ a w h hg hbx hbd Q => ?_⟩
    have h6 : a.eval ix = .int k i := (evo_ok h (fun t y ht => hg t y (by rw [ho]; simp [Op.operands, ht])) h1).1
    have h7 : a.eval x = .string s := (evo_ok h (fun t y ht => hg t y (by rw [ho]; simp [Op.operands, ht])) h4).1
    refine pure_ok h hd hdn (u := .int .u8 (c.toNat : Nat)) ?_ rfl (fun k hk => by cases hk)
    have h8 : s[i.toNat]? = some c := h5
    simp [execOp, ho, h6, h7, Instr.index, run_underlying h3, asIntOf, h2, h8]
  case h_12 op T x y yT ho =>
    obtain ⟨u, v, r, h1, h2, h3, hh⟩ := hh
    refine ⟨_, hh, fun σ γ a w h hg hbx hbd Q => ?_⟩
    have h6 : a.eval x = u := (evo_ok h (fun t z ht => hg t z (by rw [ho]; simp [Op.operands, ht])) h1).1
    have h7 : a.eval y = v := (evo_ok h (fun t z ht => hg t z (by rw [ho]; simp [Op.operands, ht])) h2).1
    refine pure_ok h hd hdn (u := r) ?_ rfl (fun k hk => by cases hk)
    simp only [execOp, ho, h6, h7, Sem.run_bind (f := fun z => pure (Next.value z)), abin_ok h3, Sem.run_pure, Result.andThen_ok]
  case h_13 op T x ho =>
    obtain ⟨u, r, h1, h3, hh⟩ := hh
    refine ⟨_, hh, fun σ γ a w h hg hbx hbd Q => ?_⟩
    have h6 : a.eval x = u := (evo_ok h (fun t z ht => hg t z (by rw [ho]; simp [Op.operands, ht])) h1).1
    refine pure_ok h hd hdn (u := r) ?_ rfl (fun k hk => by cases hk)
    simp only [execOp, ho, h6, Sem.run_bind, aun_ok h3, Sem.run_pure, Result.andThen_ok]
  case h_14 T x ho =>
    obtain ⟨u, h1, h3, hh⟩ := hh
    refine ⟨_, hh, fun σ γ a w h hg hbx hbd Q => ?_⟩
    have h6 : a.eval x = u := (evo_ok h (fun t z ht => hg t z (by rw [ho]; simp [Op.operands, ht])) h1).1
    refine pure_ok h hd hdn (u := .iface T u) ?_ rfl (fun k hk => by cases hk)
    simp only [execOp, ho, h6, Sem.run_bind, run_makeInterface w T u h3, Sem.run_pure, Result.andThen_ok]
  case h_15 fn first caps ho =>
    obtain ⟨f, cs, rfl, rfl, h1, hh⟩ := hh
    refine ⟨_, hh, fun σ γ a w h hg hbx hbd Q => ?_⟩
    obtain ⟨h6, h7⟩ := capRefs_ok h (fun t y ht => hg t y (by rw [ho]; simp [Op.operands]; simpa using ht)) h1
    refine pure_ok h hd hdn (u := .func (.func f) #[] (caps.map a.eval)) ?_ ?_ ?_
    · simp [execOp, ho, Instr.makeFunc]
    · show _ = Value.func (.func f) #[] _
      rw [← h6, ← List.map_toArray, Array.toArray_toList]
    · intro k hk
      obtain ⟨c, hc, rfl⟩ := List.mem_map.1 hk
      exact h7 c hc
  case h_16 x i ho =>
    obtain ⟨vs, c, h1, h2, hh⟩ := hh
    refine ⟨_, hh, fun σ γ a w h hg hbx hbd Q => ?_⟩
    obtain ⟨⟨us, h3, h4⟩, _⟩ := evo_ok h (fun t z ht => hg t z (by rw [ho]; simp [Op.operands, ht])) h1
    have hget : ∃ u, us[i]? = some u ∧ RepC (rdr F.R0 F.w0.heap.size σ γ w) c u := by
      exact h4.get h2
    obtain ⟨u, h5, h6⟩ := hget
    refine pure_ok h hd hdn (u := u) ?_ h6.av (fun k hk => by cases c with | c p => (cases p <;> cases hk) | g => cases hk)
    simp [execOp, ho, h3, Instr.extract, h5]
  case h_17 c ho =>
    unfold hopCall at hh
    split at hh
    · rename_i b hb
      unfold hopB at hh
      obtain ⟨callee, args, ats⟩ := c
      dsimp only at hb hh
      subst hb
      split at hh
      · obtain ⟨x, T, ha, hT, hh⟩ := hh
        obtain rfl := arr_of ha
        obtain rfl := arr_of hT
        have hmem : ∀ {σ : St} {a : Act}, (∀ t y, Operand.tmp t ∈ o.op.operands.toList → g t = some y → look σ.slot t = some y) → ∀ t y, x = .tmp t → g t = some y → look σ.slot t = some y := fun hg t y ht => hg t y (by rw [ho]; simp [Op.operands, Call.operands, ht])
        rcases hh with ⟨sz, rows, e, h1, h2, hh⟩ | ⟨s, h1, h2, hh⟩ | ⟨A, n, c, e, h1, h2, hh⟩
        · refine ⟨_, hh, fun σ γ a w h hg hbx hbd Q => ?_⟩
          obtain ⟨h3, _⟩ := evo_ok h (hmem (a := a) hg) h1
          obtain ⟨A, cap, h4, _⟩ := rows_slice h3 (Nat.zero_le 0) (Nat.zero_le _)
          refine pure_ok h hd hdn (u := .int .i64 rows.length) ?_ rfl (fun k hk => by cases hk)
          simp [execOp, ho, resolve, invoke, builtin, h4, Builtin.len_, run_underlying h2, goInt]
        · refine ⟨_, hh, fun σ γ a w h hg hbx hbd Q => ?_⟩
          obtain ⟨h3, _⟩ := evo_ok h (hmem (a := a) hg) h1
          refine pure_ok h hd hdn (u := .int .i64 s.size) ?_ rfl (fun k hk => by cases hk)
          simp [execOp, ho, resolve, invoke, builtin, show a.eval x = _ from h3, Builtin.len_, run_underlying h2, goInt]
        · refine ⟨_, hh, fun σ γ a w h hg hbx hbd Q => ?_⟩
          obtain ⟨h3, _⟩ := evo_ok h (hmem (a := a) hg) h1
          refine pure_ok h hd hdn (u := .int .i64 n) ?_ rfl (fun k hk => by cases hk)
          simp [execOp, ho, resolve, invoke, builtin, show a.eval x = _ from h3, Builtin.len_, run_underlying h2, goInt]
      · obtain ⟨x, y, k, u, v, ha, h1, h2, hh⟩ := hh
        obtain rfl := arr_of ha
        refine ⟨_, hh, fun σ γ a w h hg hbx hbd Q => ?_⟩
        have h6 : a.eval x = .int k u := (evo_ok h (fun t z ht => hg t z (by rw [ho]; simp [Op.operands, Call.operands, ht])) h1).1
        have h7 : a.eval y = .int k v := (evo_ok h (fun t z ht => hg t z (by rw [ho]; simp [Op.operands, Call.operands, ht])) h2).1
        refine pure_ok h hd hdn (u := .int k (if u < v then v else u)) ?_ rfl (fun k hk => by cases hk)
        simp [execOp, ho, resolve, invoke, builtin, h6, h7, run_max_int2]
      · obtain ⟨x, y, k, u, v, ha, h1, h2, hh⟩ := hh
        obtain rfl := arr_of ha
        refine ⟨_, hh, fun σ γ a w h hg hbx hbd Q => ?_⟩
        have h6 : a.eval x = .int k u := (evo_ok h (fun t z ht => hg t z (by rw [ho]; simp [Op.operands, Call.operands, ht])) h1).1
        have h7 : a.eval y = .int k v := (evo_ok h (fun t z ht => hg t z (by rw [ho]; simp [Op.operands, Call.operands, ht])) h2).1
        refine pure_ok h hd hdn (u := .int k (if v < u then v else u)) ?_ rfl (fun k hk => by cases hk)
        simp [execOp, ho, resolve, invoke, builtin, h6, h7, run_min_int2]
      · cases hh
    · rename_i f hf
      obtain ⟨callee, args, ats⟩ := c
      dsimp only at hf hh
      subst hf
      obtain ⟨fv, fid, caps, avs, avs', res, h1, h2, h3, h4, h5, h6, hh⟩ := hh
      exact ⟨_, hh, fun σ γ a w h hg hbx hbd Q => call_ok h hd hdn ho hg hbx h1 h2 h3 h4 h5 h6 Q⟩
    · cases hh
  case h_18 x ho =>
    obtain ⟨v, h1, hp, hh⟩ := hh
    refine ⟨_, hh, fun σ γ a w h hg hbx hbd Q => ?_⟩
    obtain ⟨h3, h4⟩ := evo_ok h (fun t y ht => hg t y (by rw [ho]; simp [Op.operands, ht])) h1
    refine pure_ok h hd hdn (u := a.eval x) ?_ h3 h4
    have hptr : ∃ p, a.eval x = .pointer (some p) := by
      cases v with
      | ref k off => exact ⟨_, h3⟩
      | ept row => obtain ⟨b, off, us, e, _⟩ := h3; exact ⟨_, e⟩
      | v y =>
        cases y with
        | pointer q =>
          cases q with
          | some p => exact ⟨p, h3⟩
          | none => cases hp
        | _ => cases hp
      | _ => cases hp
    obtain ⟨p, hq⟩ := hptr
    simp [execOp, ho, hq]
  case h_19 => cases hh
end

end Av
end Go.Proofs.YtcloigoajohppaaGreatDoor
/- Abstract states: operations with effects: a store into a box, a row handed on, an append. Generic. -/
namespace Go.Proofs.YtcloigoajohppaaGreatDoor
open Go.RowKit
namespace Av

def setAt {α : Type} (l : List α) (o : Nat) (xs : List α) : List α := l.take o ++ xs ++ l.drop (o + xs.length)
theorem setAt_out {α : Type} {l : List α} {o : Nat} {xs : List α} (h : o + xs.length ≤ l.length) {i : Nat} (hi : i < o ∨ o + xs.length ≤ i) : (setAt l o xs)[i]? = l[i]? := by
  unfold setAt
  rcases hi with hi | hi
  · rw [List.append_assoc, List.getElem?_append_left (by simp; omega), List.getElem?_take, if_pos hi]
  · rw [List.getElem?_append_right (by simp; omega)]
    simp only [List.length_append, List.length_take, List.getElem?_drop]
    congr 1
    omega
theorem RepL.setAt {R : Reader} {ps qs : List PV} {us vs : List Value} (h : RepL R ps us) (h' : RepL R qs vs) (o : Nat) : RepL R (setAt ps o qs) (setAt us o vs) := by
  unfold Av.setAt
  rw [h'.length]
  exact ((h.take o).append h').append (h.drop _)
theorem setCells_block (b : Nat) (ty : TypeId) : ∀ (vs : List Value) (o : Nat) (w : World) (us : List Value), w.heap[b]? = some (.cells us.toArray ty (0, 0)) → o + vs.length ≤ us.length →
    (w.setCells b o vs).heap[b]? = some (.cells (setAt us o vs).toArray ty (0, 0))
  | [], o, w, us, h, _ => by simpa [setAt, World.setCells] using h
  | v :: vs, o, w, us, h, hl => by
    simp only [List.length_cons] at hl
    have h1 : (w.setCell ⟨b, o, none⟩ v).heap[b]? = some (.cells (us.set o v).toArray ty (0, 0)) := by
      simp only [World.setCell, Array.getElem?_modify, if_pos, h]
      simp
    rw [World.setCells, setCells_block b ty vs (o + 1) _ _ h1 (by simp; omega)]
    congr 3
    unfold setAt
    have ho : o < us.length := by omega
    rw [List.take_set, List.drop_set, List.take_succ_eq_append_getElem ho, if_pos (by omega), List.set_append_right _ _ (by simp; omega)]
    simp [Nat.min_eq_left (Nat.le_of_lt ho), Nat.add_assoc, Nat.add_comm 1]
theorem setCells_other (b : Nat) : ∀ (vs : List Value) (o : Nat) (w : World) (k : Nat), k ≠ b → (w.setCells b o vs).heap[k]? = w.heap[k]?
  | [], _, _, _, _ => rfl
  | v :: vs, o, w, k, hk => by
    rw [World.setCells, setCells_other b vs _ _ k hk, Below.heap_setCell _ _ _ _ hk]
theorem setCells_rest (b : Nat) : ∀ (vs : List Value) (o : Nat) (w : World), (w.setCells b o vs).os = w.os ∧ (w.setCells b o vs).tape = w.tape ∧ (w.setCells b o vs).output = w.output ∧ (w.setCells b o vs).heap.size = w.heap.size
  | [], _, _ => ⟨rfl, rfl, rfl, rfl⟩
  | v :: vs, o, w => by
    obtain ⟨h1, h2, h3, h4⟩ := setCells_rest b vs (o + 1) (w.setCell ⟨b, o, none⟩ v)
    exact ⟨h1, h2, h3, h4.trans (by simp [World.setCell])⟩

def St.setBox (σ : St) (k : Nat) (cs : List PV) (own : List (Loc × (TypeId × Nat))) : St := { slot := σ.slot, box := (k, cs) :: σ.box, own, ext := σ.ext }
theorem Rel.rebox {F : Fr} {σ : St} {γ : Gh} {a : Act} {w w1 : World} (h : Rel F σ γ a w) {k : Nat} {cs cs' : List PV} {us us' : List Value} {ty : TypeId} (hk : look σ.box k = some cs)
    (hw1 : w1.heap[γ.bx k]? = some (.cells us'.toArray ty (0, 0))) (hw : w.heap[γ.bx k]? = some (.cells us.toArray ty (0, 0))) (hoth : ∀ j, j ≠ γ.bx k → w1.heap[j]? = w.heap[j]?)
    (hos : w1.os = w.os) (htp : w1.tape = w.tape) (hou : w1.output = w.output) (hsz : w1.heap.size = w.heap.size) (hrep : RepL (rdr F.R0 F.w0.heap.size σ γ w) cs' us') {own' : List (Loc × (TypeId × Nat))}
    (ho : ∀ L x, lookL own' L = some x → lookL σ.own L = some x ∧ ∀ off, L = .b k off → cs'[off]? = cs[off]? ∧ us'[off]? = us[off]?) : Rel F (σ.setBox k cs' own') γ a w1 := by
  have hkk : (look σ.box k).isSome := by rw [hk]; rfl
  have hlb : ∀ j, look (σ.setBox k cs' own').box j = if k = j then some cs' else look σ.box j := fun j => look_cons _ _ _ _
  have hav : ∀ L x, lookL own' L = some x → (σ.setBox k cs' own').avAt L = σ.avAt L := fun L x hL => by
    cases L with
    | s t => rfl
    | b j off =>
      simp only [St.avAt, hlb]
      by_cases hj : k = j
      · subst hj
        rw [if_pos rfl, hk]
        simp only [Option.bind_some]
        rw [((ho _ _ hL).2 off rfl).1]
      · rw [if_neg hj]
  have hsome : ∀ L, (lookL own' L).isSome → (lookL σ.own L).isSome := fun L hL => by
    obtain ⟨e, he⟩ := Option.isSome_iff_exists.1 hL
    rw [(ho _ _ he).1]; rfl
  have hbox : ∀ j, (look (σ.setBox k cs' own').box j).isSome → (look σ.box j).isSome := fun j hj => by
    rw [hlb] at hj
    by_cases h1 : k = j
    · subst h1; exact hkk
    · rw [if_neg h1] at hj; exact hj
  have hle : ∀ p v, rdr F.R0 F.w0.heap.size σ γ w p = some v → rdr F.R0 F.w0.heap.size (σ.setBox k cs' own') γ w1 p = some v := by
    refine rdr_le fun p v hB hm hc => ⟨fun hm' => ?_, ?_⟩
    · rcases hm' with ⟨j, cs'', hj, hp⟩ | ⟨L, e, sz, rows, h1, h2, h3, h4⟩ | hx
      · obtain ⟨cs0, h0⟩ := Option.isSome_iff_exists.1 (hbox j (by rw [hj]; rfl))
        exact hm (.inl ⟨j, cs0, h0, hp⟩)
      · exact hm (.inr (.inl ⟨L, e, sz, rows, (ho _ _ h1).1, (hav L _ h1).symm.trans h2, h3, h4⟩))
      · exact hm (.inr (.inr hx))
    · have hne : p.block ≠ γ.bx k := fun e => hm (.inl ⟨k, cs, hk, e⟩)
      exact (World.cell?_of_block (w := w) (hoth _ hne)).trans hc
  have hrowne : ∀ L x g, lookL own' L = some x → γ.rw L = some g → w1.heap[g]? = w.heap[g]? := fun L x g hL hg =>
    hoth g (h.rowbox L k g (by rw [(ho _ _ hL).1]; rfl) hkk hg)
  refine ⟨h.defers, h.size, h.below.trans ⟨hos, htp, hou, by rw [hsz]; exact Nat.le_refl _, fun j hj => hoth j (by have := (h.box_lt hkk).2; omega)⟩, h.r0, fun t x hx => ?_, fun j cs'' hj => ?_, fun j j' hj hj' => h.boxinj j j' (hbox j hj) (hbox j' hj'), fun L e sz hL => ?_, fun L L' g hL hL' => h.rowinj L L' g (hsome L hL) (hsome L' hL'), fun L j g hL hj => h.rowbox L j g (hsome L hL) (hbox j hj), σ.ext.stable (fun b hb => hoth b (fun e => (h.extf b hb).2.2.1 k hkk e.symm)) h.exth, fun b hb => by
    obtain ⟨h1, h2, h3, h4⟩ := h.extf b hb
    exact ⟨h1, by omega, fun j hj => h3 j (hbox j hj), fun L hL => h4 L (hsome L hL)⟩, h.small, fun j hj => h.dyn j (hbox j hj), h.laid, σ.ext.rmono hle h.extr⟩
  · obtain ⟨h1, h2⟩ := h.slots t x hx
    refine ⟨h1.mono hle (fun _ _ => rfl), fun j hj => ?_⟩
    rw [hlb]
    by_cases h3 : k = j
    · rw [if_pos h3]; rfl
    · rw [if_neg h3]; exact h2 j hj
  · rw [hlb] at hj
    by_cases h1 : k = j
    · subst h1
      rw [if_pos rfl] at hj
      cases hj
      exact ⟨us', ty, hw1, (h.box_lt hkk).2, hrep.mono hle⟩
    · rw [if_neg h1] at hj
      obtain ⟨us'', ty'', h2, h3, h4⟩ := h.boxes j cs'' hj
      exact ⟨us'', ty'', (hoth _ (fun e => h1 (h.boxinj k j hkk (by rw [hj]; rfl) e.symm))).trans h2, h3, h4.mono hle⟩
  · obtain ⟨h5, h6⟩ := ho _ _ hL
    obtain ⟨rows, v, h1, h2, h3⟩ := h.owns L e sz h5
    refine ⟨rows, v, (hav L _ hL).trans h1, ?_, h3.keep fun g hg => hrowne L _ g hL hg⟩
    cases L with
    | s t => exact h2
    | b j off =>
      show w1.cell? ⟨γ.bx j, off, none⟩ = some v
      by_cases hj : k = j
      · subst hj
        have h7 := (h6 off rfl).2
        have h8 : w.cell? ⟨γ.bx k, off, none⟩ = some v := h2
        rw [cell_of_row w _ off _ ty (0, 0) hw] at h8
        rw [cell_of_row w1 _ off _ ty (0, 0) hw1]
        simp only [List.getElem?_toArray] at h8 ⊢
        rw [h7]; exact h8
      · have hjs : (look σ.box j).isSome := by
          cases hq : look σ.box j with
          | none => simp [St.avAt, hq] at h1
          | some _ => rfl
        exact (World.cell?_of_block (w := w) (a := ⟨γ.bx j, off, none⟩) (hoth _ (fun e => hj (h.boxinj k j hkk hjs e.symm)))).trans h2
def hitB (k o n : Nat) : Loc → Bool
  | .b j off => decide (j = k) && (decide (o ≤ off) && decide (off < o + n))
  | .s _ => false
theorem hit_inv {k o n : Nat} {L : Loc} (h : hitB k o n L = true) : ∃ off, L = .b k off ∧ o ≤ off ∧ off < o + n := by
  cases L with
  | s t => cases h
  | b j off =>
    simp only [hitB, Bool.and_eq_true, decide_eq_true_eq] at h
    obtain ⟨rfl, h1, h2⟩ := h
    exact ⟨off, rfl, h1, h2⟩
theorem hit_no {k o n off : Nat} (h : hitB k o n (.b k off) = false) : off < o ∨ o + n ≤ off := by
  simp only [hitB, decide_true, Bool.true_and, Bool.and_eq_false_imp, decide_eq_true_eq, decide_eq_false_iff_not] at h
  omega
def keepL (l : List (Loc × (TypeId × Nat))) (k o n : Nat) : List (Loc × (TypeId × Nat)) := l.filter fun x => !hitB k o n x.1
theorem lookL_keep {l : List (Loc × (TypeId × Nat))} {k o n : Nat} : ∀ {L : Loc} {x : TypeId × Nat}, lookL (keepL l k o n) L = some x → lookL l L = some x ∧ ∀ off, L = .b k off → off < o ∨ o + n ≤ off := by
  induction l with
  | nil => intro L x h; simp [keepL, lookL] at h
  | cons y l ih =>
    intro L x h
    obtain ⟨M, y⟩ := y
    unfold keepL at ih h
    cases hM : hitB k o n M with
    | true =>
      rw [List.filter_cons_of_neg (by simp [hM])] at h
      obtain ⟨h1, h2⟩ := ih h
      obtain ⟨off, rfl, h3, h4⟩ := hit_inv hM
      refine ⟨by
        rw [lookL_cons, if_neg]
        · exact h1
        · intro e
          rcases h2 off e.symm with h5 | h5 <;> omega, h2⟩
    | false =>
      rw [List.filter_cons_of_pos (by simp [hM]), lookL_cons] at h
      by_cases he : M = L
      · rw [if_pos he] at h
        exact ⟨by rw [lookL_cons, if_pos he]; exact h, fun off hL => hit_no (by rw [← hL, ← he]; exact hM)⟩
      · rw [if_neg he] at h
        obtain ⟨h1, h2⟩ := ih h
        exact ⟨by rw [lookL_cons, if_neg he]; exact h1, h2⟩

section
variable {P : Program} {F : Fr} {σ : St} {γ : Gh} {a : Act} {w : World}
theorem Rel.store (h : Rel F σ γ a w) {k off : Nat} {cs xs : List PV} {T : TypeId} {u : Value} (hk : look σ.box k = some cs) (hxs : RepL (rdr F.R0 F.w0.heap.size σ γ w) xs u.cells.toList) (hn : (P.info? T).map (·.size) = some xs.length) (hl : off + xs.length ≤ cs.length) :
    ∃ w1, (Instr.storeAt T (.pointer (some ⟨γ.bx k, off, none⟩)) u).run P w = .ok () w1 ∧ Rel F (σ.setBox k (setAt cs off xs) (keepL σ.own k off xs.length)) γ a w1 ∧ (∀ i x, xs[i]? = some x → ∀ y, u.cells.toList[i]? = some y → w1.cell? ⟨γ.bx k, off + i, none⟩ = some y) := by
  obtain ⟨us, ty, h1, h2, h3⟩ := h.boxes k cs hk
  have hlen := h3.length
  have hxl := hxs.length
  have hsz : u.cells.size = xs.length := by rw [← hxl]; simp
  have hblk := setCells_block (γ.bx k) ty u.cells.toList off w us h1 (by omega)
  obtain ⟨r1, r2, r3, r4⟩ := setCells_rest (γ.bx k) u.cells.toList off w
  refine ⟨w.setCells (γ.bx k) off u.cells.toList, ?_, ?_, fun i x hi y hy => ?_⟩
  · obtain ⟨j, hj, hs⟩ := info_some hn
    have hst := run_storeCells_cells (P := P) (γ.bx k) off u.cells.toList 0 w (fun j hj => by
        rw [cell_of_row w _ _ _ ty (0, 0) h1]
        simp; simp at hj; omega) (fun j hj => by
        unfold World.frozen?
        rw [show (⟨γ.bx k, off + 0 + j, none⟩ : Addr).block = γ.bx k from rfl, h1]
        simp) hxs.one
    simp only [Nat.add_zero] at hst
    have hcs : u.cells.size = j.size := by rw [hs, ← hxl]; simp
    simp [Instr.storeAt, Instr.sureAddr, storeVar, sizeOf, typeInfo, hj, hcs, hst]
  · refine h.rebox hk hblk h1 (fun j hj => setCells_other _ _ _ _ j hj) r1 r2 r3 r4 (h3.setAt hxs off) (fun L x hL => ?_)
    obtain ⟨g1, g2⟩ := lookL_keep hL
    refine ⟨g1, fun o ho => ?_⟩
    have := g2 o ho
    exact ⟨setAt_out hl this, setAt_out (by omega) (by rw [hxl]; exact this)⟩
  · rw [cell_of_row _ _ _ _ ty (0, 0) hblk]
    simp only [List.getElem?_toArray]
    have hi' : i < u.cells.toList.length := (List.getElem?_eq_some_iff.1 hy).1
    unfold setAt
    have hmin : min off us.length = off := Nat.min_eq_left (by omega)
    rw [List.append_assoc, List.getElem?_append_right (by simp; omega), List.getElem?_append_left (by simp [hmin]; omega)]
    rw [← hy]
    congr 1
    simp [hmin]
theorem Rel.steal (h : Rel F σ γ a w) {S D : Loc} {e : TypeId × Nat} (hS : lookL σ.own S = some e) (hav : σ.avAt D = σ.avAt S) (hval : valAt a w γ D = valAt a w γ S) :
    Rel F { σ with own := (D, e) :: delL (delL σ.own S) D } (γ.setRow D (γ.rw S)) a w := by
  have hlk : ∀ L, lookL ((D, e) :: delL (delL σ.own S) D) L = if L = D then some e else if L = S then none else lookL σ.own L := fun L => by
    rw [lookL_cons, lookL_del, lookL_del]
    by_cases h1 : L = D
    · rw [if_pos h1.symm, if_pos h1]
    · rw [if_neg (fun e => h1 e.symm), if_neg h1, if_neg h1]
  have hrw : ∀ L, (γ.setRow D (γ.rw S)).rw L = if L = D then γ.rw S else γ.rw L := fun L => rfl
  have hSs : (lookL σ.own S).isSome := by rw [hS]; rfl
  have hmut : ∀ p, St.mut { σ with own := (D, e) :: delL (delL σ.own S) D } (γ.setRow D (γ.rw S)) p → σ.mut γ p := fun p hm => by
    rcases hm with hm | ⟨L, e', sz, rows, h1, h2, h3, h4⟩ | hx
    · exact .inl hm
    rotate_left
    · exact .inr (.inr hx)
    · have h2' : σ.avAt L = some (.sl sz rows) := by cases L <;> exact h2
      rw [hlk] at h1
      rw [hrw] at h3
      by_cases hL : L = D
      · rw [if_pos hL] at h1 h3
        cases h1
        exact .inr (.inl ⟨S, e', sz, rows, hS, by rw [← hav, ← hL]; exact h2', h3, h4⟩)
      · rw [if_neg hL] at h1 h3
        by_cases hL' : L = S
        · rw [if_pos hL'] at h1; cases h1
        · rw [if_neg hL'] at h1
          exact .inr (.inl ⟨L, e', sz, rows, h1, h2', h3, h4⟩)
  have hle : ∀ p v, rdr F.R0 F.w0.heap.size σ γ w p = some v → rdr F.R0 F.w0.heap.size { σ with own := (D, e) :: delL (delL σ.own S) D } (γ.setRow D (γ.rw S)) w p = some v :=
    rdr_le fun p v _ hm hc => ⟨fun hm' => hm (hmut p hm'), hc⟩
  -- where a place's row was owned before
  have hold : ∀ L, (lookL ((D, e) :: delL (delL σ.own S) D) L).isSome → ∃ L0, (lookL σ.own L0).isSome ∧ (γ.setRow D (γ.rw S)).rw L = γ.rw L0 ∧ ((L = D ∧ L0 = S) ∨ (L ≠ D ∧ L ≠ S ∧ L0 = L)) := fun L hL => by
    rw [hlk] at hL
    by_cases h1 : L = D
    · exact ⟨S, hSs, by rw [hrw, if_pos h1], .inl ⟨h1, rfl⟩⟩
    · rw [if_neg h1] at hL
      by_cases h2 : L = S
      · rw [if_pos h2] at hL; cases hL
      · rw [if_neg h2] at hL
        exact ⟨L, hL, by rw [hrw, if_neg h1], .inr ⟨h1, h2, rfl⟩⟩
  refine ⟨h.defers, h.size, h.below, h.r0, fun t x hx => ?_, fun k cs hk => ?_, h.boxinj, fun L e' sz hL => ?_, fun L L' g hL hL' hg hg' => ?_, fun L k g hL hk hg => ?_, h.exth, fun b hb => ?ext, h.small, h.dyn, h.laid, σ.ext.rmono hle h.extr⟩
  case ext =>
    obtain ⟨h1, h2, h3, h4⟩ := h.extf b hb
    refine ⟨h1, h2, h3, fun L hL => ?_⟩
    obtain ⟨M, m1, m2, _⟩ := hold L hL
    rw [m2]; exact h4 M m1
  · obtain ⟨h1, h2⟩ := h.slots t x hx
    exact ⟨h1.mono hle (fun _ _ => rfl), h2⟩
  · obtain ⟨us, ty, h1, h2, h3⟩ := h.boxes k cs hk
    exact ⟨us, ty, h1, h2, h3.mono hle⟩
  · have hL2 := hL
    rw [hlk] at hL2
    by_cases h1 : L = D
    · rw [if_pos h1] at hL2
      cases hL2
      obtain ⟨rows, v, h2, h3, h4⟩ := h.owns S e' sz hS
      subst h1
      exact ⟨rows, v, (show σ.avAt L = _ from hav.trans h2), hval.trans h3, by rw [hrw, if_pos rfl]; exact h4⟩
    · rw [if_neg h1] at hL2
      by_cases h2 : L = S
      · rw [if_pos h2] at hL2; cases hL2
      · rw [if_neg h2] at hL2
        obtain ⟨rows, v, h3, h4, h5⟩ := h.owns L e' sz hL2
        exact ⟨rows, v, by cases L <;> exact h3, by cases L <;> exact h4, by rw [hrw, if_neg h1]; exact h5⟩
  · obtain ⟨M, m1, m2, m3⟩ := hold L hL
    obtain ⟨M', m1', m2', m3'⟩ := hold L' hL'
    rw [m2] at hg
    rw [m2'] at hg'
    have hM := h.rowinj M M' g m1 m1' hg hg'
    rcases m3 with ⟨a1, a2⟩ | ⟨a1, a2, a3⟩ <;> rcases m3' with ⟨b1, b2⟩ | ⟨b1, b2, b3⟩
    · rw [a1, b1]
    · exact absurd (by rw [← b3, ← hM, a2]) b2
    · exact absurd (by rw [← a3, hM, b2]) a2
    · rw [← a3, ← b3, hM]
  · obtain ⟨M, m1, m2, _⟩ := hold L hL
    rw [m2] at hg
    exact h.rowbox M k g m1 hk hg
end

end Av
end Go.Proofs.YtcloigoajohppaaGreatDoor
/- Abstract states: append onto an owned row; slices and structs written out. Generic. -/
namespace Go.Proofs.YtcloigoajohppaaGreatDoor
open Go.RowKit
namespace Av

theorem rep_mk {R : Reader} {sz : Nat} {rows : List (List PV)} {zs : List Value} {A : Option Addr} {cap : Nat} (hsz : ∀ (k : Nat) (row : List PV), rows[k]? = some row → row.length = sz)
    (hz : ∀ (k : Nat) (row : List PV) (j : Nat) (p : PV), rows[k]? = some row → row[j]? = some p → ∃ x, zs[k * sz + j]? = some x ∧ RepP R p x)
    (hA : rows = [] ∨ ∃ b off, A = some ⟨b, off, none⟩ ∧ ∀ (i : Nat) (x : Value), zs[i]? = some x → i < rows.length * sz → R ⟨b, off + i, none⟩ = some x) (hc : rows.length ≤ cap) : RepP R (.sl sz rows) (.slice A rows.length cap) := by
  refine .sl sz rows A cap (fun k j => zs.getD (k * sz + j) undef) hsz ?_ (fun k row j p hk hj => ?_) hc
  · rcases hA with h | ⟨b, off, e, h⟩
    · exact .inl h
    · refine .inr ⟨b, off, e, fun k row j p hk hj => ?_⟩
      obtain ⟨x, hx, _⟩ := hz k row j p hk hj
      have h1 : k < rows.length := (List.getElem?_eq_some_iff.1 hk).1
      have h2 : j < row.length := (List.getElem?_eq_some_iff.1 hj).1
      rw [hsz k row hk] at h2
      have h3 : k * sz + j < rows.length * sz := by
        have : (k + 1) * sz ≤ rows.length * sz := Nat.mul_le_mul_right _ h1
        rw [Nat.add_mul] at this
        omega
      rw [Nat.add_assoc, List.getD_eq_getElem?_getD, hx]
      exact h _ x hx h3
  · obtain ⟨x, hx, h1⟩ := hz k row j p hk hj
    rw [List.getD_eq_getElem?_getD, hx]
    exact h1
theorem rows_flat {R : Reader} {sz : Nat} {rows : List (List PV)} {u : Value} (hs0 : 0 < sz) (h : RepP R (.sl sz rows) u) :
    ∃ (A : Option Addr) (cap : Nat) (xs : List Value), u = .slice A rows.length cap ∧ rows.length ≤ cap ∧ xs.length = rows.length * sz ∧ (∀ (k : Nat) (row : List PV), rows[k]? = some row → row.length = sz) ∧
      (∀ (k : Nat) (row : List PV) (j : Nat) (p : PV), rows[k]? = some row → row[j]? = some p → ∃ x, xs[k * sz + j]? = some x ∧ RepP R p x) ∧ (∀ x ∈ xs, x.oneCell' = true) ∧
      (rows = [] ∨ ∃ b off, A = some ⟨b, off, none⟩ ∧ ∀ (i : Nat) (x : Value), xs[i]? = some x → R ⟨b, off + i, none⟩ = some x) := by
  cases h with
  | sl _ _ A cap f hsz hA hf hc =>
    have hget : ∀ i, i < rows.length * sz → ((List.range (rows.length * sz)).map fun i => f (i / sz) (i % sz))[i]? = some (f (i / sz) (i % sz)) := fun i hi => by simp [hi]
    have hdec : ∀ k j, j < sz → (k * sz + j) / sz = k ∧ (k * sz + j) % sz = j := fun k j hj => by
      rw [Nat.mul_comm, Nat.mul_add_div hs0, Nat.mul_add_mod, Nat.div_eq_of_lt hj, Nat.mod_eq_of_lt hj]
      exact ⟨by omega, rfl⟩
    have hlt : ∀ k j, k < rows.length → j < sz → k * sz + j < rows.length * sz := fun k j h1 h2 => by
      have : (k + 1) * sz ≤ rows.length * sz := Nat.mul_le_mul_right _ h1
      rw [Nat.add_mul] at this
      omega
    have hcell : ∀ i, i < rows.length * sz → ∃ (row : List PV) (p : PV), rows[i / sz]? = some row ∧ row[i % sz]? = some p := fun i hi => by
      have h1 : i / sz < rows.length := by rw [Nat.div_lt_iff_lt_mul hs0]; exact hi
      have h2 : i % sz < rows[i / sz].length := by rw [hsz _ _ (List.getElem?_eq_getElem h1)]; exact Nat.mod_lt _ hs0
      exact ⟨_, _, List.getElem?_eq_getElem h1, List.getElem?_eq_getElem h2⟩
    refine ⟨A, cap, (List.range (rows.length * sz)).map fun i => f (i / sz) (i % sz), rfl, hc, by simp, hsz, fun k row j p hk hj => ?_, fun x hx => ?_, ?_⟩
    · have h1 : k < rows.length := (List.getElem?_eq_some_iff.1 hk).1
      have h2 : j < sz := by rw [← hsz k row hk]; exact (List.getElem?_eq_some_iff.1 hj).1
      refine ⟨f k j, ?_, hf k row j p hk hj⟩
      rw [hget _ (hlt k j h1 h2), (hdec k j h2).1, (hdec k j h2).2]
    · obtain ⟨i, hi, rfl⟩ := List.mem_map.1 hx
      obtain ⟨row, p, h1, h2⟩ := hcell i (by simpa using hi)
      exact (hf _ row _ p h1 h2).one
    · rcases hA with h | ⟨b, off, e, h⟩
      · exact .inl h
      · refine .inr ⟨b, off, e, fun i x hx => ?_⟩
        have hi : i < rows.length * sz := by
          rcases Nat.lt_or_ge i (rows.length * sz) with h' | h'
          · exact h'
          · rw [List.getElem?_eq_none (by simpa using h')] at hx; cases hx
        rw [hget i hi] at hx
        cases hx
        obtain ⟨row, p, h1, h2⟩ := hcell i hi
        have := h _ row _ p h1 h2
        rw [show off + i / sz * sz + i % sz = off + i by rw [Nat.add_assoc, Nat.div_add_mod' i sz]] at this
        exact this

theorem Rel.append {P : Program} {F : Fr} {σ : St} {γ : Gh} {a : Act} {w : World} (h : Rel F σ γ a w) {d : Nat} (hd : d < F.n) {T ty e : TypeId} {i : TypeInfo} {z : Value} (ht : P.underlying T = some (.slice e)) (hi : P.info? e = some i) (hz : i.zero = some z)
    (hzs : z.cells.size = i.size) (hs0 : 0 < i.size) (hby : i.bytes ≤ 1000000) {rows rows2 : List (List PV)} {u u2 : Value} {s : Option Nat}
    (hs : (s = none ∧ rows = [] ∧ u = .slice none 0 0) ∨ (∃ t, s = some t ∧ lookL σ.own (.s t) = some (e, i.size) ∧ look σ.slot t = some (.sl i.size rows) ∧ u = a.tmps.getD t undef))
    (hu2 : RepP (rdr F.R0 F.w0.heap.size σ γ w) (.sl i.size rows2) u2) (hnm : rows.length + rows2.length ≤ 100000000) :
    ∃ v w1 γ', (Builtin.append_ #[T, T] ty #[u, u2]).run P w = .ok v w1 ∧ Rel F ({ σ with own := delS σ.own s }.putOwn d i.size (rows ++ rows2) e) γ' (a.put (some d) v) w1 := by
  obtain ⟨A2, cap2, news, rfl, hc2, hl2, hsz2, hz2, h12, hA2⟩ := rows_flat hs0 hu2
  -- the row that is grown
  have hold : ∃ (q : Option Nat) (xs : List Value), OwnV w F.w0.heap.size e i.size rows.length u q ∧ xs.length = rows.length * i.size ∧ (∀ g, q = some g → ∀ (j : Nat) (x : Value), xs[j]? = some x → w.cell? ⟨g, j, none⟩ = some x) ∧ (∀ (k : Nat) (row : List PV), rows[k]? = some row → row.length = i.size) ∧
      (∀ (k : Nat) (row : List PV) (j : Nat) (p : PV), rows[k]? = some row → row[j]? = some p → ∃ x, xs[k * i.size + j]? = some x ∧ RepP (rdr F.R0 F.w0.heap.size σ γ w) p x) ∧ (∀ g, q = some g → ∃ t, s = some t ∧ γ.rw (.s t) = some g) ∧ (∀ t, s = some t → γ.rw (.s t) = q) := by
    rcases hs with ⟨rfl, rfl, rfl⟩ | ⟨t, rfl, h1, h2, rfl⟩
    · exact ⟨none, [], ⟨rfl, rfl⟩, by simp, fun g hg => (by cases hg), fun k row hk => (by simp at hk), fun k row j p hk => (by simp at hk), fun g hg => (by cases hg), fun t ht => (by cases ht)⟩
    · obtain ⟨rows', v, h3, h4, h5⟩ := h.owns _ _ _ h1
      simp only [St.avAt, h2, Option.some.injEq, AV.sl.injEq, true_and] at h3
      subst h3
      simp only [valAt, Option.some.injEq] at h4
      subst h4
      obtain ⟨A, cap, xs, h6, h7, h8, h9, h10, h11, h12⟩ := rows_flat hs0 (h.slots t _ h2).1
      refine ⟨γ.rw (.s t), xs, h5, h8, fun g hg j x hx => ?_, h9, h10, fun g hg => ⟨t, rfl, hg⟩, fun t' ht' => (by cases ht'; rfl)⟩
      rw [hg] at h5
      obtain ⟨cap', cur, h13, _⟩ := h5
      rcases h12 with h14 | ⟨b, off, h14, h15⟩
      · subst h14
        have hx0 : xs = [] := List.eq_nil_of_length_eq_zero (by rw [h8]; simp)
        rw [hx0] at hx
        simp at hx
      · rw [h6] at h13
        simp only [Value.slice.injEq] at h13
        rw [h14] at h13
        simp only [Option.some.injEq, Addr.mk.injEq] at h13
        obtain ⟨⟨rfl, rfl, _⟩, _⟩ := h13
        have := h.cell (h15 j x hx)
        rw [Nat.zero_add] at this
        exact this
  obtain ⟨q, xs, k1, k2, k3, k4, k5, k6, k7⟩ := hold
  obtain ⟨v, w1, q', r1, r2, r3, r4, r5, r6, r7, r8, r9, r10⟩ := run_append_av (P := P) w F.w0.heap.size T ty e i z ht hi hz hzs hs0 hby u rows.length xs q k1 k2 k3 A2 rows2.length cap2 news hl2 (by
    rcases hA2 with h1 | ⟨b, off, h1, h2⟩
    · exact .inl (by rw [h1]; rfl)
    · exact .inr ⟨b, off, h1, fun j x hx => h.cell (h2 j x hx)⟩) h12 hnm h.base
  have hlen : (rows ++ rows2).length = rows.length + rows2.length := List.length_append
  refine ⟨v, w1, γ.setRow (.s d) q', r1, h.row hd r7 r8 r9 r10 (fun k hk hn => r4 k hk (fun e => by obtain ⟨t, h1, h2⟩ := k6 k e; exact hn t h1 h2)) (fun t ht => ?_) (fun g hg => ?_) (by rw [hlen]; exact r2) ?_⟩
  · rcases hs with ⟨rfl, _⟩ | ⟨t', rfl, h1, h2, _⟩
    · cases ht
    · cases ht
      refine ⟨_, rows, h1, h2, Nat.mul_le_mul_right _ (by rw [hlen]; omega), fun g hg j hj => r5 g (by rw [← k7 t rfl]; exact hg) j hj⟩
  · rcases r6 with r6 | r6
    · rw [r6] at hg
      exact .inr (k6 g hg)
    · rw [r6] at hg; cases hg; exact .inl (Nat.le_refl _)
  · have hgetz : ∀ (k : Nat) (row : List PV) (j : Nat) (p : PV), (rows ++ rows2)[k]? = some row → row[j]? = some p → ∃ x, (xs ++ news)[k * i.size + j]? = some x ∧ RepP (rdr F.R0 F.w0.heap.size σ γ w) p x := fun k row j p hk hj => by
      rcases Nat.lt_or_ge k rows.length with hlt | hge
      · rw [List.getElem?_append_left hlt] at hk
        obtain ⟨x, hx, h1⟩ := k5 k row j p hk hj
        exact ⟨x, by rw [List.getElem?_append_left (List.getElem?_eq_some_iff.1 hx).1]; exact hx, h1⟩
      · rw [List.getElem?_append_right hge] at hk
        obtain ⟨x, hx, h1⟩ := hz2 _ row j p hk hj
        refine ⟨x, ?_, h1⟩
        have hge2 : xs.length ≤ k * i.size + j := by
          rw [k2]
          have := Nat.mul_le_mul_right i.size hge
          omega
        rw [List.getElem?_append_right hge2, k2]
        rw [show k * i.size + j - rows.length * i.size = (k - rows.length) * i.size + j by
          rw [Nat.sub_mul]
          have := Nat.mul_le_mul_right i.size hge
          omega]
        exact hx
    have hshape : ∃ A cap, v = .slice A (rows ++ rows2).length cap ∧ (rows ++ rows2).length ≤ cap ∧ ((rows ++ rows2) = [] ∨ ∃ g, q' = some g ∧ A = some ⟨g, 0, none⟩) := by
      cases q' with
      | none =>
        obtain ⟨h1, h2⟩ := r2
        have : rows ++ rows2 = [] := List.eq_nil_of_length_eq_zero (by rw [hlen]; exact h2)
        exact ⟨none, 0, by rw [h1, this]; rfl, by rw [this]; exact Nat.le_refl _, .inl this⟩
      | some g =>
        obtain ⟨cap, cur, h1, _, _, h2, _⟩ := r2
        exact ⟨_, cap, by rw [hlen]; exact h1, by rw [hlen]; exact h2, .inr ⟨g, rfl, rfl⟩⟩
    obtain ⟨A, cap, hv, hcap, hA⟩ := hshape
    rw [hv]
    refine rep_mk (zs := xs ++ news) (fun k row hk => ?_) (fun k row j p hk hj => ?_) ?_ hcap
    · rcases Nat.lt_or_ge k rows.length with hlt | hge
      · rw [List.getElem?_append_left hlt] at hk; exact k4 k row hk
      · rw [List.getElem?_append_right hge] at hk; exact hsz2 _ row hk
    · obtain ⟨x, hx, h1⟩ := hgetz k row j p hk hj
      refine ⟨x, hx, h1.mono fun p v hp => ?_⟩
      rw [if_pos (by rw [hp]; rfl)]
      exact hp
    · rcases hA with h1 | ⟨g, hg, hA⟩
      · exact .inl h1
      · refine .inr ⟨g, 0, hA, fun o x hx ho => ?_⟩
        rw [Nat.zero_add]
        have hx1 := r3 g hg o x hx
        by_cases hr : (rdr F.R0 F.w0.heap.size σ γ w ⟨g, o, none⟩).isSome
        · rw [if_pos hr]
          obtain ⟨y, hy⟩ := Option.isSome_iff_exists.1 hr
          have hc := h.cell hy
          have hlt := Rel.cell_lt hc
          rcases r6 with r6 | r6
          · have hq : q = some g := by rw [← r6]; exact hg
            obtain ⟨t, hts, htg⟩ := k6 g hq
            rcases hs with ⟨hn, _⟩ | ⟨t', ht', h1, h2, _⟩
            · rw [hn] at hts; cases hts
            · rw [ht'] at hts
              cases hts
              have hoff : o < rows.length * i.size := by
                rcases Nat.lt_or_ge o (rows.length * i.size) with h3 | h3
                · exact h3
                · exfalso
                  unfold rdr at hy
                  have := (h.row_lt (L := .s t) (by rw [h1]; rfl) htg).2
                  rw [if_neg (by dsimp only; omega), if_pos (.inr (.inl ⟨.s t, e, i.size, rows, h1, h2, htg, h3⟩))] at hy
                  cases hy
              have := r5 g hq o hoff
              rw [hx1, hc] at this
              rw [hy, ← this]
          · rw [r6] at hg
            cases hg
            exact absurd hlt (Nat.lt_irrefl _)
        · rw [if_neg hr, if_pos ⟨hg, ho⟩]
          exact hx1

end Av
end Go.Proofs.YtcloigoajohppaaGreatDoor
/- Structs of ints: == on them. Generic. -/
namespace Go.Proofs.YtcloigoajohppaaGreatDoor
open Go.RowKit
namespace Av

def intT (P : Program) : Nat → TypeId → Option Nat
  | 0, _ => none
  | d + 1, t => match P.underlying t with
    | some (.int .i64) => if (P.info? t).map (·.size) = some 1 then some 1 else none
    | some (.struct fs) => if P.stoodInHeld t = false then (fs.toList.foldl (fun (acc : Option Nat) f => match acc, intT P d f.type with
        | some n, some m => if f.offset = n ∧ f.name ≠ "_" ∧ (P.info? f.type).map (·.size) = some m then some (n + m) else none
        | _, _ => none) (some 0)) else none
    | _ => none
def intsOf : List PV → Option (List Int)
  | [] => some []
  | .v (.int .i64 a) :: l => match intsOf l with
    | some r => some (a :: r)
    | none => none
  | _ :: _ => none
def mkI (P : Program) (t : TypeId) (l : List Int) : Value := match P.underlying t with
  | some (.struct _) => .agg (l.map (Value.int .i64)).toArray
  | _ => .int .i64 (l.headD 0)
section
variable {P : Program}
theorem fold_none {α : Type} {f : Option Nat → α → Option Nat} (hf : ∀ x, f none x = none) : ∀ l : List α, l.foldl f none = none
  | [] => rfl
  | x :: l => by rw [List.foldl_cons, hf]; exact fold_none hf l
theorem beq_split {l1 l2 : List Int} (m : Nat) (h : l1.length = l2.length) : (l1 == l2) = (l1.take m == l2.take m && l1.drop m == l2.drop m) := by
  rw [Bool.eq_iff_iff, Bool.and_eq_true, beq_iff_eq, beq_iff_eq, beq_iff_eq]
  constructor
  · rintro rfl; exact ⟨rfl, rfl⟩
  · rintro ⟨h1, h2⟩
    rw [← List.take_append_drop m l1, ← List.take_append_drop m l2, h1, h2]
theorem eq_ints (w : World) : ∀ (d : Nat) (t : TypeId) (n : Nat), intT P d t = some n → ∀ (D : Nat), d ≤ D → ∀ (l1 l2 : List Int), l1.length = n → l2.length = n → (Op.equalIn D t (mkI P t l1) (mkI P t l2)).run P w = .ok (l1 == l2) w
  | 0, t, n, h => by cases h
  | d + 1, t, n, h => by
    intro D hD l1 l2 h1 h2
    obtain ⟨D, rfl⟩ : ∃ D', D = D' + 1 := ⟨D - 1, by omega⟩
    unfold intT at h
    cases hu : P.underlying t with
    | none => rw [hu] at h; cases h
    | some desc =>
      rw [hu] at h
      cases desc with
      | int k =>
        cases k <;> first | cases h | skip
        dsimp only at h
        split at h
        · cases h
          simp only [mkI, hu]
          rw [run_equalIn_int w D t .i64 .i64 _ _ hu]
          obtain ⟨a, rfl⟩ : ∃ a, l1 = [a] := by
            cases l1 with
            | nil => cases h1
            | cons a l => cases l with
              | nil => exact ⟨a, rfl⟩
              | cons => cases h1
          obtain ⟨b, rfl⟩ : ∃ b, l2 = [b] := by
            cases l2 with
            | nil => cases h2
            | cons a l => cases l with
              | nil => exact ⟨a, rfl⟩
              | cons => cases h2
          simp
        · cases h
      | struct fs =>
        dsimp only at h
        split at h
        · rename_i hst
          have hfo : P.fieldsOf t = fs := by simp [Program.fieldsOf, hu]
          simp only [mkI, hu]
          rw [run_equalIn_agg w D t _ _ (by rw [hu, hfo]) hst, hfo]
          -- the fields from n0 on
          have key : ∀ (l : List Field) (n0 : Nat), l.foldl (fun (acc : Option Nat) f => match acc, intT P d f.type with
              | some n, some m => if f.offset = n ∧ f.name ≠ "_" ∧ (P.info? f.type).map (·.size) = some m then some (n + m) else none
              | _, _ => none) (some n0) = some n → (Op.eqFields D (l1.map (Value.int .i64)).toArray (l2.map (Value.int .i64)).toArray l).run P w = .ok (l1.drop n0 == l2.drop n0) w := by
            intro l
            induction l with
            | nil =>
              intro n0 hn
              cases hn
              rw [List.drop_of_length_le (by omega), List.drop_of_length_le (by omega)]
              rfl
            | cons f l ih =>
              intro n0 hn
              rw [List.foldl_cons] at hn
              cases hm : intT P d f.type with
              | none => rw [hm] at hn; dsimp only at hn; rw [fold_none (fun x => by rfl)] at hn; cases hn
              | some m =>
                rw [hm] at hn
                dsimp only at hn
                split at hn
                · rename_i hc
                  obtain ⟨ho, hname, hsz⟩ := hc
                  have hrest := ih (n0 + m) hn
                  -- m is at most what is left
                  have hle : n0 + m ≤ n := by
                    clear hrest ih
                    generalize n0 + m = q at hn
                    clear hm ho hname hsz
                    revert q
                    induction l with
                    | nil => intro q hn; cases hn; exact Nat.le_refl _
                    | cons f' l ih2 =>
                      intro q hn
                      rw [List.foldl_cons] at hn
                      cases hm' : intT P d f'.type with
                      | none => rw [hm'] at hn; dsimp only at hn; rw [fold_none (fun x => by rfl)] at hn; cases hn
                      | some m' =>
                        rw [hm'] at hn
                        dsimp only at hn
                        split at hn
                        · have := ih2 (q + m') hn; omega
                        · rw [fold_none (fun x => by rfl)] at hn; cases hn
                  have hpart : ∀ (l0 : List Int), l0.length = n → (part f.type (l0.map (Value.int .i64)).toArray f.offset).run P w = .ok (mkI P f.type ((l0.drop n0).take m)) w := fun l0 hl0 => by
                    have hd : ∃ dd, P.underlying f.type = some dd ∧ ((∃ fs, dd = .struct fs) ∨ (dd = .int .i64 ∧ m = 1)) := by
                      cases d with
                      | zero => cases hm
                      | succ d =>
                        unfold intT at hm
                        cases hu' : P.underlying f.type with
                        | none => rw [hu'] at hm; cases hm
                        | some dd =>
                          rw [hu'] at hm
                          cases dd with
                          | int k =>
                            cases k <;> first | cases hm | skip
                            dsimp only at hm
                            split at hm
                            · cases hm; exact ⟨_, rfl, .inr ⟨rfl, rfl⟩⟩
                            · cases hm
                          | struct fs' => exact ⟨_, rfl, .inl ⟨fs', rfl⟩⟩
                          | _ => cases hm
                    obtain ⟨dd, hdd, hk⟩ := hd
                    have hp := run_part (P := P) w f.type dd m (l0.map (Value.int .i64)) f.offset hdd hsz
                    rcases hk with ⟨fs', rfl⟩ | ⟨rfl, rfl⟩
                    · rw [hp.1 rfl, ho]
                      simp only [mkI, hdd]
                      rw [List.map_take, List.map_drop]
                    · have hlt : n0 < l0.length := by omega
                      rw [hp.2 rfl (.int .i64 l0[n0]) (by rw [ho]; simp [hlt])]
                      simp only [mkI, hdd]
                      congr 2
                      rw [List.drop_eq_getElem_cons hlt]
                      rfl
                  unfold Op.eqFields
                  rw [if_pos hname]
                  simp only [Sem.run_bind, hpart l1 h1, hpart l2 h2, Result.andThen_ok]
                  rw [eq_ints w d f.type m hm D (by omega) _ _ (by simp; omega) (by simp; omega)]
                  simp only [Result.andThen_ok]
                  rw [beq_split m (by simp; omega : (l1.drop n0).length = (l2.drop n0).length)]
                  cases hq : ((l1.drop n0).take m == (l2.drop n0).take m) with
                  | false => simp
                  | true =>
                    simp only [Bool.not_true, Bool.false_eq_true, if_false, Bool.true_and]
                    rw [hrest, List.drop_drop, List.drop_drop]
                · rw [fold_none (fun x => by rfl)] at hn; cases hn
          have := key fs.toList 0 h
          simpa using this
        · cases h
      | _ => cases h
theorem intsOf_rep {R : Reader} : ∀ {xs : List PV} {l : List Int} {us : List Value}, intsOf xs = some l → RepL R xs us → us = l.map (Value.int .i64)
  | [], l, us, h, hr => by cases h; cases hr; rfl
  | x :: xs, l, us, h, hr => by
    cases hr with
    | cons h1 h2 =>
      unfold intsOf at h
      split at h
      · rename_i he; cases he
      · rename_i a l' he
        obtain ⟨rfl, rfl⟩ := List.cons.inj he
        split at h
        · rename_i r hr
          cases h
          cases h1
          rw [intsOf_rep hr h2]
          rfl
        · cases h
      · cases h
end
end Av
end Go.Proofs.YtcloigoajohppaaGreatDoor
/- Abstract states: structs and slices written out, made slices, conversions. Generic. -/
namespace Go.Proofs.YtcloigoajohppaaGreatDoor
open Go.RowKit
namespace Av

def lfill {α : Type} (place : Nat → Option (Nat × Nat)) : List α → List (Nat × List α) → Option (List α)
  | cs, [] => some cs
  | cs, (i, xs) :: rest => match place i with
    | none => none
    | some (off, sz) => if xs.length ≠ sz ∨ cs.length < off + xs.length then none else lfill place (setAt cs off xs) rest
theorem foldl_set (off : Nat) : ∀ (l : List Value) (n : Nat) (cells : Array Value), off + n + l.length ≤ cells.size →
    ((l.zipIdx n).foldl (fun (cs : Array Value) (p : Value × Nat) => cs.setIfInBounds (off + p.2) p.1) cells).toList = setAt cells.toList (off + n) l
  | [], n, cells, _ => by simp [setAt]
  | v :: l, n, cells, h => by
    simp only [List.length_cons] at h
    rw [List.zipIdx_cons, List.foldl_cons, foldl_set off l (n + 1) _ (by simp; omega)]
    unfold setAt
    have ho : off + n < cells.toList.length := by simp; omega
    simp only [Array.toList_setIfInBounds]
    rw [show off + (n + 1) = off + n + 1 by omega, List.take_set, List.drop_set, List.take_succ_eq_append_getElem ho, if_pos (by omega), List.set_append_right _ _ (by simp; omega)]
    simp [Nat.min_eq_left (Nat.le_of_lt (by simpa using ho)), Nat.add_assoc, Nat.add_comm 1]
theorem fill_eq (place : Nat → Option (Nat × Nat)) : ∀ (ps : List (Nat × Value)) (cells : Array Value), Instr.fill place cells ps = (lfill place cells.toList (ps.map fun p => (p.1, p.2.cells.toList))).map List.toArray
  | [], cells => by simp [Instr.fill, lfill]
  | (i, v) :: ps, cells => by
    unfold Instr.fill
    rw [List.map_cons]
    unfold lfill
    dsimp only
    cases place i with
    | none => rfl
    | some q =>
      obtain ⟨off, sz⟩ := q
      dsimp only
      by_cases hc : v.cells.toList.length ≠ sz ∨ cells.toList.length < off + v.cells.toList.length
      · rw [if_pos hc, if_pos]
        · rfl
        · simpa using hc
      · rw [if_neg hc, if_neg (by simpa using hc), fill_eq place ps]
        congr 2
        have hlen : off + 0 + v.cells.toList.length ≤ cells.size := by
          have := not_or.1 hc
          simp at this ⊢
          omega
        have := foldl_set off v.cells.toList 0 cells hlen
        rw [Nat.add_zero] at this
        rw [← this]
        congr 1
        rw [← Array.foldl_toList]
        simp
def partsC (g : Nat → Option AV) : List (Nat × Operand) → Option (List (Nat × List PV))
  | [] => some []
  | (i, x) :: l => match (evo g x).bind avCells, partsC g l with
    | some xs, some r => some ((i, xs) :: r)
    | _, _ => none
inductive RepParts (R : Reader) : List (Nat × List PV) → List (Nat × List Value) → Prop
  | nil : RepParts R [] []
  | cons {i : Nat} {xs : List PV} {us : List Value} {l : List (Nat × List PV)} {r : List (Nat × List Value)} (h : RepL R xs us) (t : RepParts R l r) : RepParts R ((i, xs) :: l) ((i, us) :: r)
theorem lfill_rep {R : Reader} {place : Nat → Option (Nat × Nat)} : ∀ {ps : List (Nat × List PV)} {qs : List (Nat × List Value)} {cs cs' : List PV} {us : List Value}, RepParts R ps qs → RepL R cs us → lfill place cs ps = some cs' → ∃ us', lfill place us qs = some us' ∧ RepL R cs' us'
  | [], _, cs, cs', us, h, hc, hf => by
    cases h
    cases hf
    exact ⟨us, rfl, hc⟩
  | (i, xs) :: ps, _, cs, cs', us, h, hc, hf => by
    cases h with
    | cons hx ht =>
      rename_i vs r
      unfold lfill at hf ⊢
      cases hp : place i with
      | none => rw [hp] at hf; cases hf
      | some q =>
        obtain ⟨off, sz⟩ := q
        rw [hp] at hf
        dsimp only at hf ⊢
        rw [hx.length, hc.length]
        by_cases hq : xs.length ≠ sz ∨ cs.length < off + xs.length
        · rw [if_pos hq] at hf; cases hf
        · rw [if_neg hq] at hf ⊢
          exact lfill_rep ht (hc.setAt hx off) hf
theorem partsC_ok {F : Fr} {σ : St} {γ : Gh} {a : Act} {w : World} (h : Rel F σ γ a w) {g : Nat → Option AV} : ∀ {l : List (Nat × Operand)} {ps : List (Nat × List PV)}, (∀ t y i, (i, Operand.tmp t) ∈ l → g t = some y → look σ.slot t = some y) → partsC g l = some ps →
    RepParts (rdr F.R0 F.w0.heap.size σ γ w) ps ((l.map fun p => (p.1, a.eval p.2)).map fun p => (p.1, p.2.cells.toList))
  | [], ps, _, he => by cases he; exact .nil
  | (i, x) :: l, ps, hg, he => by
    unfold partsC at he
    split at he
    · rename_i xs r h1 h2
      cases he
      cases hx : evo g x with
      | none => rw [hx] at h1; cases h1
      | some v =>
        rw [hx] at h1
        obtain ⟨h3, _⟩ := evo_ok h (fun t y ht => hg t y i (by rw [ht]; exact List.mem_cons_self)) hx
        exact .cons (avCells_ok h3 h1) (partsC_ok h (fun t y j ht => hg t y j (List.mem_cons_of_mem _ ht)) h2)
    · cases he
def placesB (P : Program) (fs : Array Field) (i : Nat) : Option (Nat × Nat) := (fs[i]?).bind fun f => (P.info? f.type).map fun t => (f.offset, t.size)
theorem run_mapM {α β : Type} {P : Program} (f : α → Sem β) (r : α → β) : ∀ (l : List α) (w : World), (∀ x ∈ l, (f x).run P w = .ok (r x) w) → (l.mapM f).run P w = .ok (l.map r) w
  | [], w, _ => by simp
  | x :: l, w, h => by
    rw [List.mapM_cons, Sem.run_bind, h x List.mem_cons_self, Result.andThen_ok, Sem.run_bind, run_mapM f r l w (fun y hy => h y (List.mem_cons_of_mem _ hy))]
    rfl

def hopx (P : Program) (g : Nat → Option AV) (bx : Nat → Option (List PV)) (o : Oper) (K : HR → Prop) : Prop :=
  match o.op with
  | .build T ps => ∃ z qs cs, (P.info? T).map (·.zero) = some (some z) ∧ (z.cells.toList.all (·.oneCell')) = true ∧ partsC g ps.toList = some qs ∧ (match P.underlying T with
      | some (.struct fs) => (fs.all fun f => (P.info? f.type).isSome) = true ∧ lfill (placesB P fs) (z.cells.toList.map .v) qs = some cs
      | some (.array _ e) => ∃ sz, (P.info? e).map (·.size) = some sz ∧ lfill (fun i => some (i * sz, sz)) (z.cells.toList.map .v) qs = some cs
      | _ => False) ∧ K ⟨.agg cs, none, none⟩
  | .buildSlice T n ps => ∃ e sz z qs, P.underlying T = some (.slice e) ∧ (P.info? e).map (·.size) = some sz ∧ 0 < sz ∧ (P.info? e).map (·.zero) = some (some z) ∧ z.cells.size = sz ∧ n * sz ≤ 16777216 ∧ partsC g ps.toList = some qs ∧
      qs.map Prod.fst = List.range n ∧ (qs.all fun q => decide (q.2.length = sz)) = true ∧ K ⟨.sl sz (qs.map Prod.snd), none, some e⟩
  | .convert S D x => ∃ u, evo g x = some (.v u) ∧ (P.underlying S).isSome = true ∧ (match u, P.underlying D with
      | .int _ n, some (.int k) => K ⟨.v (.int k (k.wrap n)), none, none⟩
      | .string s, some .string => K ⟨.v (.string s), none, none⟩
      | _, _ => False)
  | .binOp op T x y _ => hop P g bx o K ∨ ∃ xs ys as bs n b, evo g x = some (.agg xs) ∧ evo g y = some (.agg ys) ∧ intsOf xs = some as ∧ intsOf ys = some bs ∧ intT P 8 T = some n ∧ as.length = n ∧ bs.length = n ∧ (match P.underlying T with | some (.struct _) => true | _ => false) = true ∧ P.eqGuardType P.depth T = false ∧
      (match op with | .eql => b = (as == bs) | .neq => b = !(as == bs) | _ => False) ∧ K ⟨.v (.bool b), none, none⟩
  | _ => hop P g bx o K
theorem setAt_app {α : Type} {pre x rest : List α} : setAt (pre ++ rest) pre.length x = (pre ++ x) ++ rest.drop x.length := by
  unfold setAt
  rw [List.take_left, List.drop_append, List.drop_eq_nil_of_le (by omega), List.nil_append, Nat.add_sub_cancel_left]
theorem lfill_seq {α : Type} (sz : Nat) : ∀ (qs : List (Nat × List α)) (k : Nat) (pre rest : List α), qs.map Prod.fst = List.range' k qs.length → pre.length = k * sz → rest.length = qs.length * sz → (∀ q ∈ qs, q.2.length = sz) →
    lfill (fun i => some (i * sz, sz)) (pre ++ rest) qs = some (pre ++ (qs.map Prod.snd).flatten)
  | [], k, pre, rest, _, _, hr, _ => by
    have : rest = [] := List.eq_nil_of_length_eq_zero (by simpa using hr)
    subst this
    simp [lfill]
  | (i, x) :: qs, k, pre, rest, hf, hp, hr, hl => by
    rw [List.map_cons, List.length_cons, List.range'_succ] at hf
    obtain ⟨h1, h2⟩ := List.cons.inj hf
    have hx : x.length = sz := hl _ List.mem_cons_self
    simp only [List.length_cons, Nat.add_mul, Nat.one_mul] at hr
    have h1' : i = k := h1
    subst h1'
    unfold lfill
    dsimp only
    rw [if_neg (by rw [List.length_append, hp, hr, hx]; omega), ← hp, setAt_app, lfill_seq sz qs (i + 1) (pre ++ x) (rest.drop x.length) h2 (by rw [List.length_append, hp, hx, Nat.add_mul]; omega) (by rw [List.length_drop, hr, hx]; omega) (fun q hq => hl q (List.mem_cons_of_mem _ hq))]
    simp
theorem flatten_get {α : Type} {sz : Nat} : ∀ {l : List (List α)} {k j : Nat} {row : List α} {p : α}, (∀ x ∈ l, x.length = sz) → l[k]? = some row → row[j]? = some p → l.flatten[k * sz + j]? = some p
  | [], k, j, row, p, _, hk, _ => by simp at hk
  | x :: l, k, j, row, p, h, hk, hj => by
    have hx := h x List.mem_cons_self
    rw [List.flatten_cons]
    cases k with
    | zero =>
      simp at hk
      subst hk
      rw [Nat.zero_mul, Nat.zero_add, List.getElem?_append_left (List.getElem?_eq_some_iff.1 hj).1]
      exact hj
    | succ k =>
      rw [List.getElem?_append_right (by rw [hx, Nat.add_mul]; omega), hx, show (k + 1) * sz + j - sz = k * sz + j by rw [Nat.add_mul]; omega]
      exact flatten_get (fun y hy => h y (List.mem_cons_of_mem _ hy)) (by simpa using hk) hj
theorem RepParts.fst {R : Reader} {ps : List (Nat × List PV)} {qs : List (Nat × List Value)} (h : RepParts R ps qs) : qs.map Prod.fst = ps.map Prod.fst := by
  induction h with
  | nil => rfl
  | cons _ _ ih => simp [ih]
theorem RepParts.length {R : Reader} {ps : List (Nat × List PV)} {qs : List (Nat × List Value)} (h : RepParts R ps qs) : qs.length = ps.length := by
  induction h with
  | nil => rfl
  | cons _ _ ih => simp [ih]
theorem RepParts.get {R : Reader} {ps : List (Nat × List PV)} {qs : List (Nat × List Value)} (h : RepParts R ps qs) : ∀ {k : Nat} {row : List PV}, (ps.map Prod.snd)[k]? = some row → ∃ us, (qs.map Prod.snd)[k]? = some us ∧ RepL R row us := by
  induction h with
  | nil => intro k row hk; simp at hk
  | cons h _ ih =>
    intro k row hk
    cases k with
    | zero => simp at hk; subst hk; exact ⟨_, rfl, h⟩
    | succ k => simpa using ih (by simpa using hk)
theorem RepParts.all {R : Reader} {sz : Nat} {ps : List (Nat × List PV)} {qs : List (Nat × List Value)} (h : RepParts R ps qs) (hl : ∀ q ∈ ps, q.2.length = sz) : ∀ q ∈ qs, q.2.length = sz := by
  induction h with
  | nil => intro q hq; cases hq
  | cons h _ ih =>
    intro q hq
    rcases List.mem_cons.1 hq with rfl | hq
    · have := hl _ List.mem_cons_self
      exact h.length.trans this
    · exact ih (fun q hq => hl q (List.mem_cons_of_mem _ hq)) q hq
section
variable {P : Program} {F : Fr}
theorem new_ok {σ : St} {γ : Gh} {a : Act} {w : World} {o : Oper} {Q : Exit → Act → World → Prop} {d : Nat} (h : Rel F σ γ a w) (hd : o.dst = some d) (hdn : d < F.n) {sz n cap : Nat} {rows : List (List PV)} {e : TypeId} {cells : Array Value} (hsrc : ∀ g, src P g o = none)
    (hrun : (execOp a.eval o).run P w = .ok (.value (.slice (some ⟨w.heap.size, 0, none⟩) n cap)) (w.alloc (.cells cells e))) (hn : rows.length = n) (hnc : n ≤ cap) (hcm : cap ≤ maxLen) (hcs : cells.size = cap * sz)
    (hsz : ∀ (k : Nat) (row : List PV), rows[k]? = some row → row.length = sz) (hz : ∀ (k : Nat) (row : List PV) (j : Nat) (p : PV), rows[k]? = some row → row[j]? = some p → ∃ x, cells[k * sz + j]? = some x ∧ RepP (rdr F.R0 F.w0.heap.size σ γ w) p x) :
    o.wp P a w (Stp P F σ γ a w o d (σ.res d ⟨.sl sz rows, none, some e⟩)) Q := by
  subst hn
  unfold Oper.wp
  rw [hrun]
  show Stp P F σ γ a w o d (σ.putOwn d sz rows e) (a.put o.dst _) _
  rw [hd]
  have hnew : (w.alloc (.cells cells e)).heap[w.heap.size]? = some (.cells cells e (0, 0)) := heap_alloc_new w _
  have hb : Below w.heap.size w (w.alloc (.cells cells e)) := (Below.refl _ _).alloc (Nat.le_refl _) _
  refine ⟨γ.setRow (.s d) (some w.heap.size), _, rfl, hb, fun _ _ => rfl, ?_, fun g S _ hs => by rw [hsrc g] at hs; cases hs⟩
  have := h.row (d := d) hdn (s := none) (sz := sz) (rows := rows) (e := e) (v := .slice (some ⟨w.heap.size, 0, none⟩) rows.length cap) (q := some w.heap.size) hb.os hb.tape hb.output hb.size (fun k hk _ => hb.block k hk) (fun t ht => by cases ht)
    (fun g hg => by cases hg; exact .inl (Nat.le_refl _)) ⟨cap, cells, rfl, h.base, hnew, hnc, hcm, hcs⟩ (rep_mk (zs := cells.toList) hsz (fun k row j p hk hj => ?_) (.inr ⟨w.heap.size, 0, rfl, fun i x hx hi => ?_⟩) hnc)
  · exact this
  · obtain ⟨x, hx, h1⟩ := hz k row j p hk hj
    refine ⟨x, by rw [Array.getElem?_toList]; exact hx, h1.mono fun p v hp => ?_⟩
    rw [if_pos (by rw [hp]; rfl)]
    exact hp
  · have hno : rdr F.R0 F.w0.heap.size σ γ w ⟨w.heap.size, 0 + i, none⟩ = none := by
      cases hq : rdr F.R0 F.w0.heap.size σ γ w ⟨w.heap.size, 0 + i, none⟩ with
      | none => rfl
      | some z => exact absurd (Rel.cell_lt (h.cell hq)) (Nat.lt_irrefl _)
    rw [hno, if_neg (by simp), if_pos ⟨rfl, by simpa using hi⟩, Nat.zero_add, cell_of_row _ _ i cells e (0, 0) hnew]
    rw [Array.getElem?_toList] at hx
    exact hx
theorem hopx_sound {o : Oper} {K : HR → Prop} {g : Nat → Option AV} {bx : Nat → Option (List PV)} (hh : hopx P g bx o K) {d : Nat} (hd : o.dst = some d) (hdn : d < F.n) :
    ∃ r, K r ∧ ∀ σ γ a w, Rel F σ γ a w → (∀ t y, Operand.tmp t ∈ o.op.operands.toList → g t = some y → look σ.slot t = some y) → (∀ k cs, bx k = some cs → look σ.box k = some cs) → (bx d = none → look σ.box d = none) →
      ∀ Q, o.wp P a w (Stp P F σ γ a w o d (σ.res d r)) Q := by
  have hparts : ∀ {ps : Array (Nat × Operand)} {σ : St}, o.op.operands.toList = ps.toList.map (·.2) → (∀ t y, Operand.tmp t ∈ o.op.operands.toList → g t = some y → look σ.slot t = some y) → ∀ t y i, (i, Operand.tmp t) ∈ ps.toList → g t = some y → look σ.slot t = some y := fun he hg t y i hm => hg t y (by
    rw [he]
    exact List.mem_map.2 ⟨_, hm, rfl⟩)
  unfold hopx at hh
  split at hh
  · rename_i T ps ho
    obtain ⟨z, qs, cs, h1, h2, h3, h4, hh⟩ := hh
    refine ⟨_, hh, fun σ γ a w h hg hbx hbd Q => ?_⟩
    obtain ⟨i, hi, hz⟩ := info_some h1
    have h5 := partsC_ok h (hparts (ps := ps) (by rw [ho]; simp [Op.operands]) hg) h3
    have h6 : RepL (rdr F.R0 F.w0.heap.size σ γ w) (z.cells.toList.map .v) z.cells.toList := by
      rw [List.all_eq_true] at h2
      refine RepL.of (by simp) fun i p u hp hu => ?_
      rw [List.getElem?_map, hu] at hp
      cases hp
      exact .v u (h2 u (List.mem_of_getElem? hu))
    have h7 : (ps.map fun (p : Nat × Operand) => (p.1, a.eval p.2)).toList = ps.toList.map fun p => (p.1, a.eval p.2) := by simp
    split at h4
    · rename_i fs hu
      obtain ⟨h8, h9⟩ := h4
      obtain ⟨us, h10, h11⟩ := lfill_rep h5 h6 h9
      have hpl : (fs.mapM fun (f : Field) => (do pure (f.offset, ← sizeOf f.type) : Sem (Nat × Nat))).run P w = .ok (fs.toList.map fun f => (f.offset, ((P.info? f.type).map (·.size)).getD 0)).toArray w := by
        rw [Array.mapM_eq_mapM_toList, Sem.run_map, run_mapM _ (fun f => (f.offset, ((P.info? f.type).map (·.size)).getD 0))]
        · rfl
        · intro f hf
          have := Array.all_eq_true_iff_forall_mem.1 h8 f (by simpa using hf)
          obtain ⟨t, ht⟩ := Option.isSome_iff_exists.1 this
          simp [sizeOf, typeInfo, ht]
      have hplace : ((fs.toList.map fun f => (f.offset, ((P.info? f.type).map (·.size)).getD 0)).toArray[·]?) = placesB P fs := by
        funext i
        unfold placesB
        simp only [List.getElem?_toArray, List.getElem?_map, Array.getElem?_toList]
        cases hf : fs[i]? with
        | none => rfl
        | some f =>
          have := Array.all_eq_true_iff_forall_mem.1 h8 f (Array.mem_of_getElem? hf)
          obtain ⟨t, ht⟩ := Option.isSome_iff_exists.1 this
          simp [ht]
      refine pure_ok h hd hdn (u := .agg us.toArray) ?_ ⟨us, rfl, h11⟩ (fun k hk => by cases hk)
      simp only [execOp, ho, Instr.build, zeroValue, typeInfo, program, Sem.run_bind, Sem.run, Sem.run_pure, Result.andThen_ok, hi, hz, run_underlying hu, hpl, hplace, fill_eq, h7, h10, Option.map_some]
    · rename_i m e hu
      obtain ⟨sz, h8, h9⟩ := h4
      obtain ⟨us, h10, h11⟩ := lfill_rep h5 h6 h9
      obtain ⟨j, hj, hs⟩ := info_some h8
      refine pure_ok h hd hdn (u := .agg us.toArray) ?_ ⟨us, rfl, h11⟩ (fun k hk => by cases hk)
      simp only [execOp, ho, Instr.build, zeroValue, sizeOf, typeInfo, program, Sem.run_bind, Sem.run, Sem.run_pure, Result.andThen_ok, hi, hz, run_underlying hu, hj, hs, fill_eq, h7, h10, Option.map_some]
    · cases h4
  · rename_i T n ps ho
    obtain ⟨e, sz, z, qs, h1, h2, h3, h4, h5, h6, h7, h8, h9, hh⟩ := hh
    refine ⟨_, hh, fun σ γ a w h hg hbx hbd Q => ?_⟩
    obtain ⟨i, hi, hz⟩ := info_some h4
    have hs : i.size = sz := by rw [hi] at h2; simpa using h2
    have h10 := partsC_ok h (hparts (ps := ps) (by rw [ho]; simp [Op.operands]) hg) h7
    have h11 : (ps.map fun (p : Nat × Operand) => (p.1, a.eval p.2)).toList = ps.toList.map fun p => (p.1, a.eval p.2) := by simp
    have hqn : qs.length = n := by have := congrArg List.length h8; simpa using this
    have hl : ∀ q ∈ qs, q.2.length = sz := fun q hq => by have := List.all_eq_true.1 h9 q hq; simpa using this
    generalize hvs : ((ps.toList.map fun p => (p.1, a.eval p.2)).map fun p => (p.1, p.2.cells.toList)) = vs at h10
    have hvl : ∀ q ∈ vs, q.2.length = sz := h10.all hl
    have hfill : ∀ (zs : List Value), zs.length = n * sz → lfill (fun i => some (i * sz, sz)) zs vs = some (vs.map Prod.snd).flatten := fun zs hzs => by
      have := lfill_seq sz vs 0 [] zs (by rw [h10.fst, h8, h10.length, hqn, List.range_eq_range']) (by simp) (by rw [hzs, h10.length, hqn]) hvl
      simpa using this
    have hflen : ((vs.map Prod.snd).flatten).length = n * sz := by
      rw [List.length_flatten, show (vs.map Prod.snd).map List.length = List.replicate n sz by
        refine List.eq_replicate_iff.2 ⟨by simp [h10.length, hqn], fun x hx => ?_⟩
        obtain ⟨y, hy, rfl⟩ := List.mem_map.1 hx
        obtain ⟨q, hq, rfl⟩ := List.mem_map.1 hy
        exact hvl q hq]
      simp
    refine new_ok h hd hdn (sz := sz) (n := n) (cap := n) (e := e) (cells := (vs.map Prod.snd).flatten.toArray) (fun g => by simp [src, ho]) ?_ (by simp [hqn]) (Nat.le_refl _) (by
      have := Nat.le_mul_of_pos_right n h3
      simp only [maxLen]; omega) (by simpa using hflen) (fun k row hk => ?_) (fun k row j p hk hj => ?_)
    · have hlim : ¬ (n * sz > 2 ^ 24) := by omega
      have hf1 := hfill ((Array.range (n * sz)).map (fun k => z.cells[k % z.cells.size]!)).toList (by simp)
      by_cases hn0 : n = 0
      · subst hn0
        have hv0 : vs = [] := List.eq_nil_of_length_eq_zero (by rw [h10.length, hqn])
        subst hv0
        simp [execOp, ho, Instr.buildSlice, run_underlying h1, sizeOf, typeInfo, hi, fill_eq, hvs, lfill, newRow, newObj, Sem.run]
      · have hne : ¬ (n * sz = 0) := Nat.mul_ne_zero hn0 (by omega)
        simp only [execOp, ho, Instr.buildSlice, run_underlying h1, sizeOf, zeroValue, typeInfo, program, Sem.run_bind, Sem.run, Sem.run_pure, Result.andThen_ok, hi, hz, hs, hlim, hne, if_false, fill_eq, h11, hvs, newRow, newObj, hf1, Option.map_some]
        rfl
    · obtain ⟨q, hq, rfl⟩ := List.mem_map.1 (List.mem_of_getElem? hk)
      exact hl q hq
    · obtain ⟨us, h12, h13⟩ := h10.get hk
      obtain ⟨x, h14, h15⟩ := h13.get hj
      refine ⟨x, ?_, h15⟩
      rw [List.getElem?_toArray]
      refine flatten_get (fun y hy => ?_) h12 h14
      obtain ⟨q, hq, rfl⟩ := List.mem_map.1 hy
      exact hvl q hq
  · rename_i S D x ho
    obtain ⟨u, h1, h2, hh⟩ := hh
    obtain ⟨ds, hds⟩ := Option.isSome_iff_exists.1 h2
    split at hh
    · rename_i k0 n k hD
      refine ⟨_, hh, fun σ γ a w h hg hbx hbd Q => ?_⟩
      have h6 : a.eval x = .int k0 n := (evo_ok h (fun t z ht => hg t z (by rw [ho]; simp [Op.operands, ht])) h1).1
      refine pure_ok h hd hdn (u := .int k (k.wrap n)) ?_ rfl (fun k hk => by cases hk)
      simp [execOp, ho, h6, convert, run_underlying hds, run_underlying hD, Conv.intToInt]
    · rename_i s hD
      refine ⟨_, hh, fun σ γ a w h hg hbx hbd Q => ?_⟩
      have h6 : a.eval x = .string s := (evo_ok h (fun t z ht => hg t z (by rw [ho]; simp [Op.operands, ht])) h1).1
      refine pure_ok h hd hdn (u := .string s) ?_ rfl (fun k hk => by cases hk)
      simp [execOp, ho, h6, convert, run_underlying hds, run_underlying hD]
    · cases hh
  · rename_i op T x y yT ho
    rcases hh with hh | ⟨xs, ys, as, bs, n, b, h1, h2, h3, h4, h5, h6, h7, h8, h9, h10, hh⟩
    · exact hop_sound hh hd hdn
    · refine ⟨_, hh, fun σ γ a w h hg hbx hbd Q => ?_⟩
      obtain ⟨us, g1, g2⟩ := (evo_ok h (fun t z ht => hg t z (by rw [ho]; simp [Op.operands, ht])) h1).1
      obtain ⟨vs, g3, g4⟩ := (evo_ok h (fun t z ht => hg t z (by rw [ho]; simp [Op.operands, ht])) h2).1
      rw [intsOf_rep h3 g2] at g1
      rw [intsOf_rep h4 g4] at g3
      have hk : ∀ l : List Int, mkI P T l = .agg (l.map (Value.int .i64)).toArray := fun l => by
        unfold mkI
        cases hu : P.underlying T with
        | none => rw [hu] at h8; cases h8
        | some dd =>
          rw [hu] at h8
          cases dd <;> first | rfl | cases h8
      have heq := eq_ints (P := P) w 8 T n h5 10000 (by omega) as bs h6 h7
      rw [hk, hk] at heq
      refine pure_ok h hd hdn (u := .bool b) ?_ rfl (fun k hk => by cases hk)
      cases op <;> first | exact h10.elim | skip
      · rw [show b = (as == bs) from h10]
        simp only [execOp, ho, g1, g3, Sem.run_bind, run_eqGuard_agg w _ T x y _ _ h9, Result.andThen_ok, run_eql_struct, heq, Sem.run_pure]
      · rw [show b = !(as == bs) from h10]
        simp only [execOp, ho, g1, g3, Sem.run_bind, run_eqGuard_agg w _ T x y _ _ h9, Result.andThen_ok, run_neq_struct, heq, Sem.run_pure]
  · exact hop_sound hh hd hdn
end

end Av
end Go.Proofs.YtcloigoajohppaaGreatDoor
/- Abstract states: a region's operations in order; statements; functions. Generic. -/
namespace Go.Proofs.YtcloigoajohppaaGreatDoor
open Go.RowKit
namespace Av

def avOf (g : Nat → Option AV) (bx : Nat → Option (List PV)) : Loc → Option AV
  | .s t => g t
  | .b k off => ((bx k).bind (·[off]?)).map PV.av
section
variable {P : Program}
theorem hopx_src {g : Nat → Option AV} {bx : Nat → Option (List PV)} {o : Oper} {K : HR → Prop} (h : hopx P g bx o K) : hopx P g bx o (fun r => K r ∧ ∀ S, src P g o = some S → avOf g bx S = some r.av) := by
  by_cases hs : src P g o = none
  · have : (fun r => K r ∧ ∀ S, src P g o = some S → avOf g bx S = some r.av) = K := by
      funext r
      rw [hs]
      simp
    rw [this]
    exact h
  · unfold src at hs
    split at hs
    · rename_i s ho
      unfold hopx hop at h ⊢
      simp only [ho] at h ⊢
      obtain ⟨v, h1, h2⟩ := h
      refine ⟨v, h1, h2, fun S hS => ?_⟩
      simp only [src, ho, Option.some.injEq] at hS
      subst hS
      exact h1
    · rename_i s ho
      unfold hopx hop at h ⊢
      simp only [ho] at h ⊢
      obtain ⟨v, h1, h2⟩ := h
      refine ⟨v, h1, h2, fun S hS => ?_⟩
      simp only [src, ho, Option.some.injEq] at hS
      subst hS
      exact h1
    · rename_i T p ho
      split at hs
      · rename_i k off d h1 h2
        split at hs
        · exact absurd rfl hs
        · rename_i hrow
          unfold hopx hop at h ⊢
          have h1' : evo g (.tmp p) = some (.ref k off) := h1
          simp only [ho, h1'] at h ⊢
          obtain ⟨cs, h3, h4⟩ := h
          refine ⟨cs, h3, ?_⟩
          obtain ⟨d', n, h5, h6, h7⟩ := h4
          have : d' = d := by rw [h5] at h2; exact Option.some.inj h2
          subst this
          refine ⟨d', n, h5, h6, ?_⟩
          rw [if_neg hrow] at h7 ⊢
          obtain ⟨p', h8, h9⟩ := h7
          refine ⟨p', h8, h9, fun S hS => ?_⟩
          simp only [src, ho, h1, h5, if_neg hrow, Option.some.injEq] at hS
          subst hS
          simp only [avOf, h3, Option.bind_some]
          rw [List.getElem?_drop, Nat.add_zero] at h8
          rw [h8]
          rfl
      · exact absurd rfl hs
    · exact absurd rfl hs
end
def bxOf (r : HR) : Option (List PV) := match r.own with
  | some _ => none
  | none => r.box
def ownOf (r : HR) : Option (TypeId × Nat) := match r.own, r.av with
  | some e, .sl sz _ => some (e, sz)
  | _, _ => none
theorem res_slot (σ : St) (d : Nat) (r : HR) (t : Nat) : look (σ.res d r).slot t = if d = t then some r.av else look σ.slot t := by
  obtain ⟨x, b, o⟩ := r
  cases o with
  | none => cases b <;> rfl
  | some e => cases x <;> rfl
theorem res_box (σ : St) (d : Nat) (r : HR) (k : Nat) : look (σ.res d r).box k = match bxOf r with | some cs => if d = k then some cs else look σ.box k | none => look σ.box k := by
  obtain ⟨x, b, o⟩ := r
  cases o with
  | none => cases b <;> rfl
  | some e => cases x <;> rfl
theorem res_own (σ : St) (d : Nat) (r : HR) (L : Loc) : lookL (σ.res d r).own L = if L = .s d then ownOf r else lookL σ.own L := by
  obtain ⟨x, b, o⟩ := r
  cases o with
  | none => cases b <;> exact lookL_del _ _ _
  | some e => cases x <;> first | exact lookL_putOwn _ _ _ _ _ _ | exact lookL_del _ _ _
def stealSt (σ : St) (D S : Loc) : St := match lookL σ.own S with
  | some e => { σ with own := (D, e) :: delL (delL σ.own S) D }
  | none => σ
theorem stealSt_slot (σ : St) (D S : Loc) : (stealSt σ D S).slot = σ.slot ∧ (stealSt σ D S).box = σ.box := by
  unfold stealSt
  split <;> exact ⟨rfl, rfl⟩
theorem Rel.stealSt {F : Fr} {σ : St} {γ : Gh} {a : Act} {w : World} (h : Rel F σ γ a w) {D S : Loc} (hav : ∀ e, lookL σ.own S = some e → σ.avAt D = σ.avAt S) (hval : valAt a w γ S ≠ none → valAt a w γ D = valAt a w γ S) : ∃ γ', γ'.bx = γ.bx ∧ Rel F (stealSt σ D S) γ' a w := by
  unfold Av.stealSt
  cases hS : lookL σ.own S with
  | none => exact ⟨γ, rfl, h⟩
  | some e =>
    obtain ⟨rows, v, _, h2, _⟩ := h.owns S e.1 e.2 hS
    exact ⟨γ.setRow D (γ.rw S), rfl, h.steal hS (hav e hS) (hval (by rw [h2]; simp))⟩
def takes (st : List Nat) (o : Oper) (d : Nat) : Bool := match o.op with
  | .assign _ => true
  | _ => st.contains d
def stl (P : Program) (st : List Nat) (g : Nat → Option AV) (o : Oper) (d : Nat) (σ' : St) : St := if takes st o d = true then (match src P g o with | some S => stealSt σ' (.s d) S | none => σ') else σ'
def guardB (ops : Array Oper) (g : Nat → Option AV) (o : Oper) : Option Bool := match o.guard with
  | none => some true
  | some (j, want) => match (ops[j]?).bind (·.dst) with
    | some t => match g t with
      | some (.v (.bool b)) => some (b == want)
      | some (.v (.tuple _)) => some false
      | _ => none
    | none => none
def storeSt (σ : St) (k off : Nat) (cs xs : List PV) (x : Operand) : St := match x with
  | .tmp t => stealSt (σ.setBox k (setAt cs off xs) (keepL σ.own k off xs.length)) (.b k off) (.s t)
  | _ => σ.setBox k (setAt cs off xs) (keepL σ.own k off xs.length)
def appK (P : Program) (n : Nat) (σ : St) (c : Call) (d : Nat) (K : St → Prop) : Prop :=
  ∃ x y T e i z rows rows2 s, c.args.toList = [x, y] ∧ c.argTypes.toList = [T, T] ∧ P.underlying T = some (.slice e) ∧ (P.info? e).map (·.size) = some i ∧ 0 < i ∧ (P.info? e).map (·.zero) = some (some z) ∧ z.cells.size = i ∧ ((P.info? e).map fun j => decide (j.bytes ≤ 1000000)) = some true ∧ d < n ∧
    ((s = none ∧ rows = [] ∧ evo (look σ.slot) x = some (.v (.slice none 0 0))) ∨ (∃ t, x = .tmp t ∧ s = some t ∧ lookL σ.own (.s t) = some (e, i) ∧ look σ.slot t = some (.sl i rows))) ∧
    (evo (look σ.slot) y = some (.sl i rows2) ∨ (rows2 = [] ∧ evo (look σ.slot) y = some (.v (.slice none 0 0)))) ∧ rows.length + rows2.length ≤ 100000000 ∧
    K ({ σ with own := delS σ.own s }.putOwn d i (rows ++ rows2) e)
def Hand (P : Program) (n : Nat) (σ : St) (o : Oper) (K : St → Prop) : Prop :=
  ∀ (F : Fr) (γ : Gh) (a : Act) (w : World), F.n = n → Rel F σ γ a w → ∀ Q : Exit → Act → World → Prop, o.wp P a w (fun a' w' => ∃ σ' γ', K σ' ∧ Rel F σ' γ' a' w') Q
def sop (P : Program) (n : Nat) (st : List Nat) (σ : St) (o : Oper) (K : St → Prop) : Prop :=
  match o.op, o.dst with
  | .store T x v, none => ∃ k off u cs xs, evo (look σ.slot) x = some (.ref k off) ∧ evo (look σ.slot) v = some u ∧ look σ.box k = some cs ∧ avCells u = some xs ∧ (P.info? T).map (·.size) = some xs.length ∧ off + xs.length ≤ cs.length ∧ K (storeSt σ k off cs xs v)
  | .call { callee := .builtin .append, args, argTypes }, some d => appK P n σ { callee := .builtin .append, args, argTypes } d K
  | _, some d => if st.contains (d + 1000000) = true then Hand P n σ o K else d < n ∧ hopx P (look σ.slot) (look σ.box) o (fun r => K (stl P st (look σ.slot) o d (σ.res d r)))
  | _, none => Hand P n σ o K
def sops (P : Program) (n : Nat) (st : List Nat) (ops : Array Oper) : List Oper → St → (St → Prop) → Prop
  | [], σ, K => K σ
  | o :: l, σ, K => match guardB ops (look σ.slot) o with
    | some true => sop P n st σ o fun σ' => sops P n st ops l σ' K
    | some false => ∃ d, o.dst = some d ∧ d < n ∧ sops P n st ops l (σ.put d (.v undef)) K
    | none => False

section
variable {P : Program} {F : Fr}
theorem Stp.mono {σ : St} {γ : Gh} {a : Act} {w : World} {o : Oper} {d : Nat} {σ' : St} {a' : Act} {w' : World} (h : Stp P F σ γ a w o d σ' a' w') : ∃ γ', Rel F σ' γ' a' w' := by
  obtain ⟨γ', u, _, _, _, h1, _⟩ := h
  exact ⟨γ', h1⟩
theorem stl_ok {st : List Nat} {σ : St} {γ : Gh} {a : Act} {w : World} {o : Oper} {d : Nat} {r : HR} {a' : Act} {w' : World} (h0 : Rel F σ γ a w) (hdn : d < F.n) (hs : ∀ S, src P (look σ.slot) o = some S → avOf (look σ.slot) (look σ.box) S = some r.av) (hb : bxOf r = none ∨ src P (look σ.slot) o = none)
    (h : Stp P F σ γ a w o d (σ.res d r) a' w') : ∃ γ', Rel F (stl P st (look σ.slot) o d (σ.res d r)) γ' a' w' := by
  obtain ⟨γ', u, rfl, h1, h2, h3, h4⟩ := h
  unfold stl
  split
  · split
    · rename_i S hS
      have hd' : d < a.tmps.size := by rw [h0.size]; exact hdn
      have hbx : bxOf r = none := hb.resolve_right (by rw [hS]; simp)
      have hvd : valAt (a.put (some d) u) w' γ' (.s d) = some u := by simp [valAt, getD_put hd']
      have havS : avOf (look σ.slot) (look σ.box) S = some r.av := hs S hS
      by_cases hSd : S = .s d
      · subst hSd
        obtain ⟨γ'', _, h5⟩ := h3.stealSt (D := .s d) (S := .s d) (fun _ _ => rfl) (fun _ => rfl)
        exact ⟨γ'', h5⟩
      · have hval : valAt (a.put (some d) u) w' γ' S ≠ none → valAt (a.put (some d) u) w' γ' (.s d) = valAt (a.put (some d) u) w' γ' S := fun hne => by
          rw [hvd]
          have h5 : valAt (a.put (some d) u) w' γ' S = valAt a w γ S := by
            cases S with
            | s t =>
              have : d ≠ t := fun e => hSd (by rw [e])
              simp [valAt, getD_put hd', this]
            | b k off =>
              have hk : (look σ.box k).isSome := by
                cases hq : look σ.box k with
                | none => simp [avOf, hq] at havS
                | some cs => rfl
              show w'.cell? ⟨γ'.bx k, off, none⟩ = w.cell? ⟨γ.bx k, off, none⟩
              rw [h2 k hk]
              exact h1.cell (p := ⟨γ.bx k, off, none⟩) (h0.box_lt hk).1
          rcases h4 (look σ.slot) S (fun t y _ hy => hy) hS with h6 | h6
          · rw [h5, h6]
          · rw [h5, h6] at hne; exact absurd rfl hne
        have hav : (σ.res d r).avAt (.s d) = (σ.res d r).avAt S := by
          have h6 : (σ.res d r).avAt (.s d) = some r.av := by
            show look (σ.res d r).slot d = _
            rw [res_slot, if_pos rfl]
          rw [h6, ← havS]
          cases S with
          | s t =>
            have : d ≠ t := fun e => hSd (by rw [e])
            show _ = look (σ.res d r).slot t
            rw [res_slot, if_neg this]
            rfl
          | b k off =>
            show _ = ((look (σ.res d r).box k).bind (·[off]?)).map PV.av
            rw [res_box, hbx]
            rfl
        obtain ⟨γ'', _, h5⟩ := h3.stealSt (D := .s d) (S := S) (fun _ _ => hav) hval
        exact ⟨γ'', h5⟩
    · exact ⟨γ', h3⟩
  · exact ⟨γ', h3⟩
theorem hopx_box {g : Nat → Option AV} {bx : Nat → Option (List PV)} {o : Oper} {K : HR → Prop} (h : hopx P g bx o K) (hs : src P g o ≠ none) : hopx P g bx o (fun r => K r ∧ bxOf r = none) := by
  unfold src at hs
  split at hs
  · rename_i s ho
    unfold hopx hop at h ⊢
    simp only [ho] at h ⊢
    obtain ⟨v, h1, h2⟩ := h
    exact ⟨v, h1, h2, rfl⟩
  · rename_i s ho
    unfold hopx hop at h ⊢
    simp only [ho] at h ⊢
    obtain ⟨v, h1, h2⟩ := h
    exact ⟨v, h1, h2, rfl⟩
  · rename_i T p ho
    split at hs
    · rename_i k off d h1 h2
      unfold hopx hop at h ⊢
      have h1' : evo g (.tmp p) = some (.ref k off) := h1
      simp only [ho, h1'] at h ⊢
      obtain ⟨cs, h3, d', n, h5, h6, h7⟩ := h
      refine ⟨cs, h3, d', n, h5, h6, ?_⟩
      split at h7
      · rename_i hr
        rw [if_pos hr]
        exact ⟨h7.1, h7.2, rfl⟩
      · rename_i hr
        rw [if_neg hr]
        obtain ⟨p', h8, h9⟩ := h7
        exact ⟨p', h8, h9, rfl⟩
    · exact absurd rfl hs
  · exact absurd rfl hs
theorem hopx_full {g : Nat → Option AV} {bx : Nat → Option (List PV)} {o : Oper} {K : HR → Prop} (hh : hopx P g bx o K) {d : Nat} (hd : o.dst = some d) (hdn : d < F.n) :
    ∃ r, K r ∧ (∀ S, src P g o = some S → avOf g bx S = some r.av) ∧ (bxOf r = none ∨ src P g o = none) ∧ ∀ σ γ a w, Rel F σ γ a w → (∀ t y, Operand.tmp t ∈ o.op.operands.toList → g t = some y → look σ.slot t = some y) → (∀ k cs, bx k = some cs → look σ.box k = some cs) → (bx d = none → look σ.box d = none) →
      ∀ Q, o.wp P a w (Stp P F σ γ a w o d (σ.res d r)) Q := by
  by_cases hs : src P g o = none
  · obtain ⟨r, ⟨h1, h2⟩, h3⟩ := hopx_sound (F := F) (hopx_src hh) hd hdn
    exact ⟨r, h1, h2, .inr hs, h3⟩
  · obtain ⟨r, ⟨⟨h1, h4⟩, h2⟩, h3⟩ := hopx_sound (F := F) (hopx_src (hopx_box hh hs)) hd hdn
    exact ⟨r, h1, h2, .inl h4, h3⟩
theorem append_ok {σ : St} {γ : Gh} {a : Act} {w : World} {o : Oper} {d : Nat} {args : Array Operand} {ats : Array TypeId} (h : Rel F σ γ a w) (ho : o.op = .call { callee := .builtin .append, args, argTypes := ats }) (hd : o.dst = some d) {K : St → Prop}
    (hK : appK P F.n σ { callee := .builtin .append, args, argTypes := ats } d K) (Q : Exit → Act → World → Prop) : o.wp P a w (fun a' w' => ∃ σ' γ', K σ' ∧ Rel F σ' γ' a' w') Q := by
  obtain ⟨x, y, T, e, i, z, rows, rows2, s, h1, h2, h3, h4a, h4c, h4b, h5, h6, h7, h8, h9, h10, hK⟩ := hK
  dsimp only at h1 h2
  obtain rfl := arr_of h1
  obtain rfl := arr_of h2
  obtain ⟨j, hj, h4b⟩ := info_some h4b
  have h4 : j.size = i ∧ j.zero = some z := ⟨by rw [hj] at h4a; simpa using h4a, h4b⟩
  rw [hj] at h6
  simp only [Option.map_some, Option.some.injEq, decide_eq_true_eq] at h6
  have hs : (s = none ∧ rows = [] ∧ a.eval x = .slice none 0 0) ∨ (∃ t, s = some t ∧ lookL σ.own (.s t) = some (e, j.size) ∧ look σ.slot t = some (.sl j.size rows) ∧ a.eval x = a.tmps.getD t undef) := by
    rcases h8 with ⟨h11, h12, h13⟩ | ⟨t, rfl, h12, h13, h14⟩
    · exact .inl ⟨h11, h12, (evo_ok h (fun t y _ hy => hy) h13).1⟩
    · exact .inr ⟨t, h12, by rw [h4.1]; exact h13, by rw [h4.1]; exact h14, rfl⟩
  have hu2 : RepP (rdr F.R0 F.w0.heap.size σ γ w) (.sl j.size rows2) (a.eval y) := by
    rcases h9 with h9 | ⟨rfl, h9⟩
    · rw [h4.1]; exact (evo_ok h (fun t y _ hy => hy) h9).1
    · rw [show a.eval y = .slice none 0 0 from (evo_ok h (fun t y _ hy => hy) h9).1]
      exact .sl j.size [] none 0 (fun _ _ => undef) (fun k row hk => by simp at hk) (.inl rfl) (fun k row _ _ hk => by simp at hk) (Nat.le_refl _)
  obtain ⟨v, w1, γ', hr, hrel⟩ := h.append (ty := o.type) h7 h3 hj h4.2 (by rw [h5, h4.1]) (by rw [h4.1]; omega) h6 hs hu2 h10
  unfold Oper.wp
  have hrun : (execOp a.eval o).run P w = .ok (.value v) w1 := by
    simp [execOp, ho, resolve, invoke, builtin, hr]
  rw [hrun]
  show ∃ σ' γ', K σ' ∧ Rel F σ' γ' (a.put o.dst v) w1
  rw [hd]
  rw [h4.1] at hrel
  exact ⟨_, γ', hK, hrel⟩
theorem store_ok {σ : St} {γ : Gh} {a : Act} {w : World} {o : Oper} {T : TypeId} {x v : Operand} (h : Rel F σ γ a w) (ho : o.op = .store T x v) (hd : o.dst = none) {K : St → Prop} {k off : Nat} {u : AV} {cs xs : List PV}
    (h1 : evo (look σ.slot) x = some (.ref k off)) (h2 : evo (look σ.slot) v = some u) (h3 : look σ.box k = some cs) (h4 : avCells u = some xs) (h5 : (P.info? T).map (·.size) = some xs.length) (h6 : off + xs.length ≤ cs.length) (hK : K (storeSt σ k off cs xs v)) (Q : Exit → Act → World → Prop) :
    o.wp P a w (fun a' w' => ∃ σ' γ', K σ' ∧ Rel F σ' γ' a' w') Q := by
  have g1 : a.eval x = .pointer (some ⟨γ.bx k, off, none⟩) := (evo_ok h (fun t y _ hy => hy) h1).1
  have g2 := (evo_ok h (fun t y _ hy => hy) h2).1
  obtain ⟨w1, hr, hrel, hcell⟩ := h.store (P := P) h3 (avCells_ok g2 h4) h5 h6
  unfold Oper.wp
  have hrun : (execOp a.eval o).run P w = .ok .skip w1 := by
    simp [execOp, ho, g1, hr]
  rw [hrun]
  show ∃ σ' γ', K σ' ∧ Rel F σ' γ' (a.put o.dst undef) w1
  rw [hd]
  show ∃ σ' γ', K σ' ∧ Rel F σ' γ' a w1
  unfold storeSt at hK
  split at hK
  · rename_i t
    have key : ∀ e, lookL (σ.setBox k (setAt cs off xs) (keepL σ.own k off xs.length)).own (.s t) = some e → ∃ sz rows, look σ.slot t = some (.sl sz rows) ∧ xs = [.sl sz rows] := fun e he => by
      obtain ⟨he', _⟩ := lookL_keep he
      obtain ⟨rows, v', h7, _⟩ := h.owns (.s t) e.1 e.2 he'
      have h8 : look σ.slot t = some (.sl e.2 rows) := h7
      have h9 : look σ.slot t = some u := h2
      rw [h8] at h9
      cases h9
      cases h4
      exact ⟨_, _, h8, rfl⟩
    by_cases hown : lookL (σ.setBox k (setAt cs off xs) (keepL σ.own k off xs.length)).own (.s t) = none
    · unfold stealSt at hK
      rw [hown] at hK
      exact ⟨_, γ, hK, hrel⟩
    · obtain ⟨e, he⟩ := Option.ne_none_iff_exists'.1 hown
      obtain ⟨sz, rows, h7, rfl⟩ := key e he
      have hu : (a.eval (.tmp t)).cells.toList = [a.eval (.tmp t)] := by
        have h8 : look σ.slot t = some u := h2
        rw [h7] at h8
        cases h8
        have := (show RepP _ (.sl sz rows) (a.eval (.tmp t)) from g2).one
        cases hv : a.eval (.tmp t) <;> first | rfl | (rw [hv] at this; cases this)
      have hav : (σ.setBox k (setAt cs off [.sl sz rows]) (keepL σ.own k off 1)).avAt (.b k off) = look σ.slot t := by
        show ((look (σ.setBox k _ _).box k).bind (·[off]?)).map PV.av = look σ.slot t
        have : look (σ.setBox k (setAt cs off [.sl sz rows]) (keepL σ.own k off 1)).box k = some (setAt cs off [.sl sz rows]) := by simp [St.setBox, look_cons]
        rw [this, h7]
        simp only [Option.bind_some]
        have hl : off < cs.length := by simp at h6; omega
        unfold setAt
        rw [List.append_assoc, List.getElem?_append_right (by simp; omega)]
        simp [Nat.min_eq_left (Nat.le_of_lt hl)]
        rfl
      have hval : w1.cell? ⟨γ.bx k, off, none⟩ = some (a.tmps.getD t undef) := by
        have := hcell 0 (.sl sz rows) rfl (a.eval (.tmp t)) (by rw [hu]; rfl)
        rw [Nat.add_zero] at this
        exact this
      obtain ⟨γ', _, h8⟩ := hrel.stealSt (D := .b k off) (S := .s t) (fun _ _ => hav) (fun _ => hval)
      exact ⟨_, γ', hK, h8⟩
  · exact ⟨_, γ, hK, hrel⟩

end
end Av
end Go.Proofs.YtcloigoajohppaaGreatDoor
/- Abstract states: statements; loops; functions. Generic. -/
namespace Go.Proofs.YtcloigoajohppaaGreatDoor
open Go.RowKit
namespace Av

section
variable {P : Program} {F : Fr}
theorem getD_some {l : Array Value} {t : Nat} {b : Bool} (h : l.getD t undef = .bool b) : l[t]? = some (.bool b) := by
  rcases Nat.lt_or_ge t l.size with h' | h'
  · simp [h'] at h ⊢; exact h
  · simp [Array.getElem?_eq_none h'] at h
    cases h
theorem guard_ok {σ : St} {γ : Gh} {a : Act} {w : World} (h : Rel F σ γ a w) {ops : Array Oper} {g : Nat → Option AV} {o : Oper} {b : Bool} (hg : ∀ j want t y, o.guard = some (j, want) → (ops[j]?).bind (·.dst) = some t → g t = some y → look σ.slot t = some y)
    (hb : guardB ops g o = some b) : Region.wanted o (yielded ops a.tmps) = b := by
  unfold guardB at hb
  unfold Region.wanted
  cases hgd : o.guard with
  | none => rw [hgd] at hb; cases hb; rfl
  | some jw =>
    obtain ⟨j, want⟩ := jw
    rw [hgd] at hb
    dsimp only at hb ⊢
    cases ht : (ops[j]?).bind (·.dst) with
    | none => rw [ht] at hb; cases hb
    | some t =>
      rw [ht] at hb
      dsimp only at hb
      unfold yielded
      rw [ht]
      simp only [Option.bind_some]
      split at hb
      · rename_i c hc
        cases hb
        have := (h.slots t _ (hg j want t _ hgd ht hc)).1
        rw [getD_some this]
        cases c <;> cases want <;> rfl
      · rename_i vs hc
        cases hb
        have h1 : a.tmps.getD t undef = .tuple vs := (h.slots t _ (hg j want t _ hgd ht hc)).1
        rcases Nat.lt_or_ge t a.tmps.size with h' | h'
        · have : a.tmps[t]? = some (.tuple vs) := by simp [h'] at h1 ⊢; exact h1
          rw [this]; rfl
        · rw [Array.getElem?_eq_none h']; rfl
      · cases hb

theorem sop_ok {st : List Nat} {σ : St} {γ : Gh} {a : Act} {w : World} {o : Oper} {K : St → Prop} (h : Rel F σ γ a w) (hs : sop P F.n st σ o K) (Q : Exit → Act → World → Prop) : o.wp P a w (fun a' w' => ∃ σ' γ', K σ' ∧ Rel F σ' γ' a' w') Q := by
  unfold sop at hs
  split at hs
  · rename_i T x v ho hd
    obtain ⟨k, off, u, cs, xs, h1, h2, h3, h4, h5, h6, hK⟩ := hs
    exact store_ok h ho hd h1 h2 h3 h4 h5 h6 hK Q
  · rename_i args ats d ho hd
    exact append_ok h ho hd hs Q
  · rename_i hd _
    split at hs
    · exact hs F γ a w rfl h Q
    obtain ⟨hdn, hx⟩ := hs
    obtain ⟨r, hK, h1, h2, h3⟩ := hopx_full (F := F) hx hd hdn
    refine Oper.wp_mono (fun a' w' hst => ?_) (h3 σ γ a w h (fun t y _ hy => hy) (fun k cs hk => hk) (fun hk => hk) Q)
    obtain ⟨γ', hrel⟩ := stl_ok (st := st) h hdn h1 h2 hst
    exact ⟨_, γ', hK, hrel⟩
  · exact hs F γ a w rfl h Q

theorem sops_ok {st : List Nat} {ops : Array Oper} {K : St → Prop} {Q : Exit → Act → World → Prop} (hQ : ∀ σ γ a w, K σ → Rel F σ γ a w → Q .normal a w) : ∀ (l : List Oper) (σ : St) (γ : Gh) (a : Act) (w : World), Rel F σ γ a w → sops P F.n st ops l σ K → wpList P ops Q l a w
  | [], σ, γ, a, w, h, hs => hQ σ γ a w hs h
  | o :: l, σ, γ, a, w, h, hs => by
    unfold sops at hs
    unfold wpList
    split at hs
    · rename_i hg
      rw [guard_ok h (fun j want t y _ _ hy => hy) hg, if_pos rfl]
      refine .inl (Oper.wp_mono (fun a' w' hst => ?_) (sop_ok h hs Q))
      obtain ⟨σ', γ', h1, h2⟩ := hst
      exact sops_ok hQ l σ' γ' a' w' h2 h1
    · rename_i hg
      obtain ⟨d, hd, hdn, hs⟩ := hs
      rw [guard_ok h (fun j want t y _ _ hy => hy) hg, if_neg (by simp), hd]
      exact sops_ok hQ l _ γ _ w (h.put hdn (x := .v undef) (u := undef) rfl (fun k hk => by cases hk)) hs
    · cases hs

inductive AX where
  | normal
  | exit (id : Nat)
  | ret
def AX.exit_ : AX → Exit
  | .normal => .normal
  | .exit id => .exit id
  | .ret => .ret
def AWp (P : Program) (F : Fr) (c : Code) (Q : AX → St → Prop) (σ : St) : Prop :=
  ∀ γ a w, Rel F σ γ a w → c.wp P (fun e a' w' => ∃ x σ' γ', e = x.exit_ ∧ Q x σ' ∧ Rel F σ' γ' a' w') a w
def athen (next : St → Prop) (Q : AX → St → Prop) : AX → St → Prop
  | .normal, σ => next σ
  | x, σ => Q x σ
def ablock (id : Nat) (Q : AX → St → Prop) : AX → St → Prop
  | .exit id', σ => if id' = id then Q .normal σ else Q (.exit id') σ
  | x, σ => Q x σ
theorem awp_region {id : Nat} {l : List Oper} {Q : AX → St → Prop} {σ : St} (st : List Nat) (h : sops P F.n st l.toArray l σ (Q .normal)) : AWp P F (Code.region id l.toArray false) Q σ := fun γ a w hr =>
  wp_region_lit (sops_ok (fun σ' γ' a' w' hq hr' => ⟨.normal, σ', γ', rfl, hq, hr'⟩) l σ γ a w hr h)
theorem awp_seq {x y : Code} {Q : AX → St → Prop} {σ : St} (h : AWp P F x (athen (AWp P F y Q) Q) σ) : AWp P F (x.seq y) Q σ := fun γ a w hr =>
  wp_seq (wp_mono (h γ a w hr) fun e _ _ ⟨z, σ', γ', he, hq, hr'⟩ => by
    subst he
    cases z with
    | normal => exact hq γ' _ _ hr'
    | exit id => exact ⟨.exit id, σ', γ', rfl, hq, hr'⟩
    | ret => exact ⟨.ret, σ', γ', rfl, hq, hr'⟩)
theorem awp_skip {Q : AX → St → Prop} {σ : St} (h : Q .normal σ) : AWp P F .skip Q σ := fun γ _ _ hr => wp_skip ⟨.normal, σ, γ, rfl, h, hr⟩
theorem awp_ret {Q : AX → St → Prop} {σ : St} (h : Q .ret σ) : AWp P F .ret Q σ := fun γ _ _ hr => wp_ret ⟨.ret, σ, γ, rfl, h, hr⟩
theorem awp_exit {id : Nat} {Q : AX → St → Prop} {σ : St} (h : Q (.exit id) σ) : AWp P F (.exit id) Q σ := fun γ _ _ hr => wp_exit ⟨.exit id, σ, γ, rfl, h, hr⟩
theorem awp_block {id : Nat} {c : Code} {Q : AX → St → Prop} {σ : St} (h : AWp P F c (ablock id Q) σ) : AWp P F (.block id c) Q σ := fun γ a w hr =>
  wp_block (wp_mono (h γ a w hr) fun e _ _ ⟨z, σ', γ', he, hq, hr'⟩ => by
    subst he
    cases z with
    | normal => exact ⟨.normal, σ', γ', rfl, hq, hr'⟩
    | exit id' =>
      simp only [AX.exit_, Exit.inBlock]
      simp only [ablock] at hq
      by_cases hid : id' = id
      · rw [if_pos hid] at hq ⊢
        exact ⟨.normal, σ', γ', rfl, hq, hr'⟩
      · rw [if_neg hid] at hq ⊢
        exact ⟨.exit id', σ', γ', rfl, hq, hr'⟩
    | ret => exact ⟨.ret, σ', γ', rfl, hq, hr'⟩)
theorem awp_cond {c : Operand} {x y : Code} {Q : AX → St → Prop} {σ : St} {t : Bool} (hc : evo (look σ.slot) c = some (.v (.bool t))) (h1 : t = true → AWp P F x Q σ) (h2 : t = false → AWp P F y Q σ) : AWp P F (.cond c x y) Q σ := fun γ a w hr => by
  have he : a.eval c = .bool t := (evo_ok hr (fun u y _ hy => hy) hc).1
  exact wp_cond_split he (fun ht => h1 ht γ a w hr) (fun ht => h2 ht γ a w hr)
theorem awp_sub {c : Code} {Q : AX → St → Prop} {σ σ' : St} (hs : σ.Sub σ') (h : AWp P F c Q σ') : AWp P F c Q σ := fun γ a w hr => h γ a w (hr.sub hs)
theorem awp_loop {ι : Type} {c : Code} {Q : AX → St → Prop} {σ : St} (I : ι → St) (m : ι → Nat) (i0 : ι) (h0 : σ.Sub (I i0)) (round : ∀ i, AWp P F c (athen (fun σ' => ∃ j, m j < m i ∧ σ'.Sub (I j)) Q) (I i)) : AWp P F (.loop c) Q σ := fun γ a w hr => by
  refine wp_loop_ghost (fun n a w => ∃ i γ, m i = n ∧ Rel F (I i) γ a w) (m i0) ⟨i0, γ, rfl, hr.sub h0⟩ ?_
  rintro n a w ⟨i, γ, rfl, hr⟩
  refine wp_mono (round i γ a w hr) ?_
  rintro e a' w' ⟨z, σ', γ', rfl, hq, hr'⟩
  cases z with
  | normal =>
    obtain ⟨j, hj, hI'⟩ := hq
    exact ⟨m j, hj, j, γ', rfl, hr'.sub hI'⟩
  | exit id => exact ⟨.exit id, σ', γ', rfl, hq, hr'⟩
  | ret => exact ⟨.ret, σ', γ', rfl, hq, hr'⟩
theorem put_same {a : Act} {d : Nat} (hd : d < a.tmps.size) : a.put (some d) (a.tmps.getD d undef) = a := by
  obtain ⟨tmps, df⟩ := a
  simp only [Act.put]
  congr 1
  simp only at hd
  apply Array.ext
  · simp
  · intro i h1 h2
    rw [Array.getElem_setIfInBounds]
    split
    · rename_i he
      subst he
      simp [hd]
    · rfl
theorem awp_nil {c : Code} {Q : AX → St → Prop} {σ : St} (d sz : Nat) (e : TypeId) (hd : d < F.n) (hs : look σ.slot d = some (.v (.slice none 0 0))) (h : AWp P F c Q (σ.putOwn d sz [] e)) : AWp P F c Q σ := fun γ a w hr => by
  have hv : a.tmps.getD d undef = .slice none 0 0 := (hr.slots d _ hs).1
  have := hr.row (d := d) hd (s := none) (sz := sz) (rows := []) (e := e) (v := .slice none 0 0) (q := none) rfl rfl rfl (Nat.le_refl _) (fun _ _ _ => rfl) (fun t ht => by cases ht) (fun g hg => by cases hg) ⟨rfl, rfl⟩
    (.sl sz [] none 0 (fun _ _ => undef) (fun k row hk => by simp at hk) (.inl rfl) (fun k row _ _ hk => by simp at hk) (Nat.le_refl _))
  rw [← hv, put_same (by rw [hr.size]; exact hd)] at this
  exact h _ a w this

def retOne (P : Program) (σ : St) (K : CV → Prop) : ResultVar → Prop
  | .tmp t => ∃ x, look σ.slot t = some x ∧ (match x with
    | .v u => u.oneCell' = true ∧ K (.c (.v u))
    | .sl sz rows => K (.c (.sl sz rows))
    | .agg xs => K (.g xs)
    | _ => False)
  | .cell t T => ∃ k off cs d n, look σ.slot t = some (.ref k off) ∧ look σ.box k = some cs ∧ P.underlying T = some d ∧ (P.info? T).map (·.size) = some n ∧
      if d.isRow = true then n ≤ (cs.drop off).length ∧ K (.g ((cs.drop off).take n)) else ∃ p, (cs.drop off)[0]? = some p ∧ K (.c p)
def retAll (P : Program) (σ : St) : List ResultVar → (List CV → Prop) → Prop
  | [], K => K []
  | r :: l, K => retOne P σ (fun c => retAll P σ l fun cs => K (c :: cs)) r
def RetOK (P : Program) (rs : Array ResultVar) (σ : St) (res : FRes) : Prop :=
  (∃ t sz rows e, rs = #[.tmp t] ∧ look σ.slot t = some (.sl sz rows) ∧ lookL σ.own (.s t) = some (e, sz) ∧ res = ⟨.sl sz rows, some e⟩) ∨
  (retAll P σ rs.toList fun cs => res = ⟨match cs with | [c] => c.av | cs => .tup cs, none⟩)
def resOne (tmps : Array Value) : ResultVar → Sem Value
  | .tmp t => pure (tmps.getD t undef)
  | .cell a t => do loadVar t (← asAddr (tmps.getD a undef))
theorem results_eq (fn : Func) (tmps : Array Value) : results fn tmps = (do
    let vs ← fn.results.mapM (resOne tmps)
    pure (if h : vs.size = 1 then vs[0] else .tuple vs)) := by
  unfold results
  congr 1
theorem retOne_ok {σ : St} {γ : Gh} {a : Act} {w : World} (h : Rel F σ γ a w) {K : CV → Prop} {r : ResultVar} (hr : retOne P σ K r) : ∃ c u, K c ∧ RepC (rdr F.R0 F.w0.heap.size σ γ w) c u ∧
    (resOne a.tmps r).run P w = .ok u w := by
  cases r with
  | tmp t =>
    obtain ⟨x, h1, h2⟩ := hr
    have h3 := (h.slots t x h1).1
    split at h2
    · exact ⟨_, _, h2.2, .c (.v _ h2.1), by rw [resOne, show a.tmps.getD t undef = _ from h3]; rfl⟩
    · exact ⟨_, _, h2, .c h3, rfl⟩
    · obtain ⟨us, h4, h5⟩ := h3
      exact ⟨_, _, h2, .g h5, by rw [resOne, h4]; rfl⟩
    · cases h2
  | cell t T =>
    obtain ⟨k, off, cs, d, n, h1, h2, h3, h4, h5⟩ := hr
    have h6 : a.tmps.getD t undef = .pointer (some ⟨γ.bx k, off, none⟩) := (h.slots t _ h1).1
    obtain ⟨us, h7, h8⟩ := h.boxcells h2
    have hl : ∀ v, (Instr.loadAt T (.pointer (some ⟨γ.bx k, off, none⟩))).run P w = .ok v w → ((do loadVar T (← asAddr (a.tmps.getD t undef)) : Sem Value)).run P w = .ok v w := fun v hv => by
      rw [h6]
      simpa [Instr.loadAt, Instr.sureAddr, asAddr] using hv
    split at h5
    · rename_i hrow
      refine ⟨_, .agg ((us.drop off).take n).toArray, h5.2, .g ((h7.drop off).take n), hl _ (run_loadAt_mid w _ off T _ d (fun j v hv => ?_) h3 hrow ?_)⟩
      · rw [List.getElem?_take] at hv
        split at hv
        · rw [List.getElem?_drop] at hv; exact h8 _ _ hv
        · cases hv
      · have := (h7.drop off).length
        rw [h4, List.length_take, this, Nat.min_eq_left h5.1]
    · rename_i hrow
      obtain ⟨p, h9, h10⟩ := h5
      obtain ⟨u, h11, h12⟩ := (h7.drop off).get h9
      refine ⟨_, u, h10, .c h12, hl _ (run_load_one w _ off T d u (h8 _ _ ?_) h3 (by simpa using hrow))⟩
      rw [List.getElem?_drop] at h11
      simpa using h11
theorem retAll_ok {σ : St} {γ : Gh} {a : Act} {w : World} (h : Rel F σ γ a w) : ∀ {l : List ResultVar} {K : List CV → Prop}, retAll P σ l K → ∃ cs us, K cs ∧ RepCL (rdr F.R0 F.w0.heap.size σ γ w) cs us ∧
    (l.mapM (resOne a.tmps)).run P w = .ok us w
  | [], K, hr => ⟨[], [], hr, .nil, by simp⟩
  | r :: l, K, hr => by
    obtain ⟨c, u, h1, h2, h3⟩ := retOne_ok h hr
    obtain ⟨cs, us, h4, h5, h6⟩ := retAll_ok h h1
    refine ⟨_, _, h4, .cons h2 h5, ?_⟩
    rw [List.mapM_cons, Sem.run_bind, h3, Result.andThen_ok, Sem.run_bind, h6]
    rfl
theorem rdr_fresh {R : Reader} {w0 w : World} {σ : St} {γ : Gh} : ∀ p v, rdr R w0.heap.size σ γ w p = some v → fresh R w0 w none 0 p = some v := by
  intro p v hp
  unfold fresh
  unfold rdr at hp
  by_cases hB : p.block < w0.heap.size
  · rw [if_pos hB] at hp ⊢; exact hp
  · rw [if_neg hB] at hp ⊢
    rw [if_neg (by rintro ⟨h1, _⟩; cases h1)]
    by_cases hm : σ.mut γ p
    · rw [if_pos hm] at hp; cases hp
    · rw [if_neg hm] at hp; exact hp
def startSt (args : List AV) : St := ⟨args.zipIdx.map fun x => (x.2, x.1), [], [], Ext.nil⟩
theorem look_start (args : List AV) (n t : Nat) : look ((args.zipIdx n).map fun x => (x.2, x.1)) t = if n ≤ t then args[t - n]? else none := by
  induction args generalizing n with
  | nil => simp [look]
  | cons x l ih =>
    rw [List.zipIdx_cons, List.map_cons, look_cons]
    by_cases h : n = t
    · subst h; simp
    · rw [if_neg h, ih]
      by_cases h1 : n ≤ t
      · rw [if_pos h1, if_pos (by omega)]
        rw [show t - n = (t - (n + 1)) + 1 by omega, List.getElem?_cons_succ]
      · rw [if_neg h1, if_neg (by omega)]
theorem RepAL.get {R : Reader} {xs : List AV} {us : List Value} (h : RepAL R xs us) : ∀ {i : Nat} {x : AV}, xs[i]? = some x → ∃ u, us[i]? = some u ∧ RepA R (fun _ => 0) x u ∧ x.refs = [] := by
  induction h with
  | nil => intro i x hx; simp at hx
  | cons h hr _ ih =>
    intro i x hx
    cases i with
    | zero => simp at hx; subst hx; exact ⟨_, rfl, h, hr⟩
    | succ i => simpa using ih (by simpa using hx)
theorem RepAL.length {R : Reader} {xs : List AV} {us : List Value} (h : RepAL R xs us) : us.length = xs.length := by
  induction h with
  | nil => rfl
  | cons _ _ _ ih => simp [ih]
theorem fn_ok {f : FuncId} {fn : Func} {c : Code} {args : List AV} {res : FRes} (hf : P.funcs[f]? = some fn) (hname : (fn.name == "runtime.NumGoroutine") = false) (hb : fn.body = some c) (hn : args.length ≤ fn.ntmps ∧ fn.ntmps ≤ 1000000)
    (h : ∀ F : Fr, F.n = fn.ntmps → AWp P F c (fun x σ => (match x with | .exit _ => False | _ => True) ∧ RetOK P fn.results σ res) (startSt args)) : FnOK P f args res := by
  refine ⟨⟨fn, c, hf, hname, hb⟩, fun w R hR us hus => calls_of_wp hf hb ?_⟩
  have hlen := hus.length
  let F : Fr := ⟨R, w, fn.ntmps⟩
  have hmut : ∀ γ p, ¬ (startSt args).mut γ p := fun γ p => by
    rintro (⟨k, cs, h1, _⟩ | ⟨L, e, sz, rows, h1, _⟩ | h1 | h1) <;> cases h1
  let γ0 : Gh := ⟨fun _ => 0, fun _ => none⟩
  have hR0 : ∀ p v, R p = some v → rdr R w.heap.size (startSt args) γ0 w p = some v := fun p v hp => by
    have := Rel.cell_lt (hR p v hp)
    unfold rdr
    rw [if_pos this]; exact hp
  have hrel : Rel F (startSt args) γ0 { tmps := us.toArray ++ Array.replicate (fn.ntmps - us.toArray.size) undef, defers := [] } w := by
    refine ⟨rfl, ?_, Below.refl _ _, hR, fun t x hx => ?_, fun k cs hk => (by cases hk), fun k k' hk => (by cases hk), fun L e sz hL => (by cases hL), fun L L' g hL => (by cases hL), fun L k g hL => (by cases hL), trivial, fun b hb => hb.elim (fun h => h.elim) (fun h => h.elim), hn.2, fun k hk => (by cases hk), trivial, trivial⟩
    · show _ = fn.ntmps
      simp; omega
    · have hx' : args[t]? = some x := by
        have := hx
        unfold startSt at this
        rw [look_start] at this
        simpa using this
      obtain ⟨u, h1, h2, h3⟩ := hus.get hx'
      have ht : t < us.length := (List.getElem?_eq_some_iff.1 h1).1
      refine ⟨?_, fun k hk => by rw [h3] at hk; cases hk⟩
      have : (us.toArray ++ Array.replicate (fn.ntmps - us.toArray.size) undef).getD t undef = u := by
        rw [Array.getD_eq_getD_getElem?, Array.getElem?_append_left (by simpa using ht)]
        simp [h1]
      rw [this]
      exact h2.mono hR0 (fun k _ => rfl)
  refine wp_mono (h F rfl γ0 _ w hrel) ?_
  rintro e a' w' ⟨x, σ', γ', rfl, ⟨hx, hret⟩, hr'⟩
  have hbody : ∀ v, (results fn a'.tmps).run P w' = .ok v w' ∧ ResRep R w w' res v → bodyPost P fn (fun e w' => ∃ u, e = .returned u ∧ Below w.heap.size w w' ∧ ResRep R w w' res u) x.exit_ a' w' := fun v hv => by
    cases x with
    | normal => exact ⟨hr'.defers, v, hv.1, v, rfl, hr'.below, hv.2⟩
    | exit id => exact hx.elim
    | ret => exact ⟨hr'.defers, v, hv.1, v, rfl, hr'.below, hv.2⟩
  rcases hret with ⟨t, sz, rows, e, h1, h2, h3, rfl⟩ | hret
  · refine hbody (a'.tmps.getD t undef) ⟨by simp [results_eq, h1, resOne], ?_⟩
    obtain ⟨rows', v, h4, h5, h6⟩ := hr'.owns _ _ _ h3
    have h7 : look σ'.slot t = some (.sl sz rows') := h4
    rw [h2] at h7
    cases h7
    have h8 : v = a'.tmps.getD t undef := by simpa [valAt] using h5.symm
    subst h8
    refine ⟨γ'.rw (.s t), h6, RepP.mono (fun p v hp => ?_) (hr'.slots t _ h2).1⟩
    unfold fresh
    unfold rdr at hp
    by_cases hB : p.block < w.heap.size
    · rw [if_pos hB]; rw [if_pos hB] at hp; exact hp
    · rw [if_neg hB] at hp ⊢
      by_cases hm : σ'.mut γ' p
      · rw [if_pos hm] at hp; cases hp
      · rw [if_neg hm] at hp
        rw [if_neg]
        · exact hp
        · rintro ⟨h9, h10⟩
          exact hm (.inr (.inl ⟨.s t, e, sz, rows, h3, h2, h9, h10⟩))
  · obtain ⟨cs, vs, h1, h2, h3⟩ := retAll_ok hr' hret
    have hrun : (results fn a'.tmps).run P w' = .ok (if h : vs.toArray.size = 1 then vs.toArray[0] else .tuple vs.toArray) w' := by
      rw [results_eq, Array.mapM_eq_mapM_toList, Sem.run_bind, Sem.run_map, h3]
      rfl
    have hmono : ∀ {c : CV} {u : Value}, RepC (rdr R w.heap.size σ' γ' w') c u → RepA (fresh R w w' none 0) (fun _ => 0) c.av u := fun hc => (hc.mono rdr_fresh).av
    refine hbody _ ⟨hrun, ?_⟩
    subst h1
    cases h2 with
    | nil => exact ⟨rfl, [], by simp, .nil⟩
    | cons hc ht =>
      cases ht with
      | nil =>
        refine ⟨?_, by simpa using hmono hc⟩
        rename_i c _
        cases c with
        | c p => cases p <;> rfl
        | g xs => rfl
      | cons hc' ht' =>
        exact ⟨rfl, _, by simp, .cons (hc.mono rdr_fresh) (.cons (hc'.mono rdr_fresh) (ht'.mono rdr_fresh))⟩

end

end Av
end Go.Proofs.YtcloigoajohppaaGreatDoor
/- Abstract states: regions that draw their order: operations without effects in whatever order, then others in theirs. Generic. -/
namespace Go.Proofs.YtcloigoajohppaaGreatDoor
open Go.RowKit
namespace Av

section
variable {P : Program} {ops : Array Oper} {Q : Exit → Act → World → Prop}
def cntU (n : Nat) (listed : Array Bool) : Nat := match n with
  | 0 => 0
  | n + 1 => cntU n listed + if listed.getD n true = true then 0 else 1
theorem cntU_set {listed : Array Bool} {j : Nat} : ∀ {n : Nat}, listed.getD j true = false → (j < n → cntU n (listed.setIfInBounds j true) + 1 = cntU n listed) ∧ (n ≤ j → cntU n (listed.setIfInBounds j true) = cntU n listed)
  | 0, _ => ⟨fun h => (by omega), fun _ => rfl⟩
  | n + 1, h => by
    obtain ⟨h1, h2⟩ := cntU_set (n := n) h
    have hjs : j < listed.size := by
      rcases Nat.lt_or_ge j listed.size with h' | h'
      · exact h'
      · simp [Array.getElem?_eq_none h'] at h
    constructor
    · intro hj
      unfold cntU
      by_cases hjn : j = n
      · subst hjn
        rw [h2 (Nat.le_refl _), h]
        simp [hjs]
      · have := h1 (by omega)
        rw [getD_set_ne true hjn]
        omega
    · intro hj
      unfold cntU
      rw [h2 (by omega), getD_set_ne true (by omega)]
theorem cntU_pos {listed : Array Bool} : ∀ {n : Nat}, 0 < cntU n listed → ∃ i, i < n ∧ listed.getD i true = false ∧ ∀ j, j < i → listed.getD j true = true
  | 0, h => by simp [cntU] at h
  | n + 1, h => by
    by_cases h0 : 0 < cntU n listed
    · obtain ⟨i, h1, h2⟩ := cntU_pos h0
      exact ⟨i, by omega, h2⟩
    · unfold cntU at h
      have hn : listed.getD n true = false := by
        cases hq : listed.getD n true with
        | false => rfl
        | true => rw [hq] at h; simp at h; omega
      refine ⟨n, by omega, hn, fun j hj => ?_⟩
      cases hq : listed.getD j true with
      | true => rfl
      | false =>
        exfalso
        apply h0
        clear h h0 hn
        induction n with
        | zero => omega
        | succ n ih =>
          unfold cntU
          by_cases hjn : j = n
          · subst hjn; rw [hq]; simp
          · have := ih (by omega); omega
theorem cntU_zero {listed : Array Bool} : ∀ {n : Nat}, cntU n listed = 0 → ∀ i, i < n → listed.getD i true = true
  | 0, _, i, hi => by omega
  | n + 1, h, i, hi => by
    unfold cntU at h
    by_cases hin : i = n
    · subst hin
      cases hq : listed.getD i true with
      | true => rfl
      | false => rw [hq] at h; simp at h
    · exact cntU_zero (n := n) (by omega) i (by omega)
theorem any_head {n g : Nat} {Inv : Array Bool → Act → World → Prop} (hn : n ≤ ops.size) (hback : ∀ i o, i < n → ops[i]? = some o → ∀ e ∈ o.after, Region.binds .any e = true → e.on < i)
    (htail : n = ops.size ∨ (Region.sinkB .any ops n = true ∧ Region.chainB .any ops n = true ∧ n < ops.size))
    (step : ∀ i listed a w, i < n → i ∈ Region.ready .any ops listed → HeadInv .any ops n listed → Inv listed a w → wpOp P ops Q i (fun a' w' => Inv (listed.setIfInBounds i true) a' w') a w)
    (fin : ∀ listed a w, HeadInv .any ops n listed → (∀ i, i < n → listed.getD i true = true) → Inv listed a w → wpAny P .any ops Q g listed a w) :
    ∀ (f : Nat) (listed : Array Bool) (a : Act) (w : World), cntU n listed = f → HeadInv .any ops n listed → Inv listed a w → wpAny P .any ops Q (f + g) listed a w
  | 0, listed, a, w, hc, inv, hI => by
    rw [Nat.zero_add]
    exact fin listed a w inv (cntU_zero hc) hI
  | f + 1, listed, a, w, hc, inv, hI => by
    rw [show f + 1 + g = (f + g) + 1 by omega]
    have hlt : ∀ j ∈ Region.ready .any ops listed, j < n := fun j hj => by
      obtain ⟨i, h1, h2, _⟩ := cntU_pos (n := n) (listed := listed) (by omega)
      rcases Nat.lt_or_ge j n with h | h
      · exact h
      · rcases htail with h3 | ⟨h3, h4, h5⟩
        · obtain ⟨_, o, ho, _⟩ := mem_ready.1 hj
          have := (Array.getElem?_eq_some_iff.1 ho).1
          omega
        · exact absurd hj (tail_waits h3 h4 h5 inv _ i rfl h1 h2 j h)
    refine ⟨fun h0 => ?_, fun j hj => wpOp_mono (fun a' w' h' => any_head hn hback htail step fin f _ a' w' ?_ (inv.set hj (hlt j hj)) h') (step j listed a w (hlt j hj) hj inv hI)⟩
    · obtain ⟨i, h1, h2, h3⟩ := cntU_pos (n := n) (listed := listed) (by omega)
      have hmem : i ∈ Region.ready .any ops listed := by
        have hi : i < ops.size := by omega
        refine mem_ready.2 ⟨h2, ops[i], by simp [hi], fun e he hb => ?_⟩
        have h4 := hback i ops[i] h1 (by simp [hi]) e he hb
        have h5 := h3 e.on h4
        have hs : e.on < listed.size := by rw [inv.size]; omega
        simp [hs] at h5 ⊢
        exact h5
      rw [h0] at hmem
      cases hmem
    · have := (cntU_set (n := n) (mem_ready.1 hj).1).1 (hlt j hj)
      omega
end

theorem res_ext (σ : St) (d : Nat) (r : HR) : (σ.res d r).ext = σ.ext := by
  unfold St.res
  repeat' split
  all_goals rfl
structure Lk (σ0 : St) (rs : List (Nat × HR)) (L : Nat → Prop) (σ : St) : Prop where
  in_ : ∀ (j d : Nat) (r : HR), L j → rs[j]? = some (d, r) → look σ.slot d = some r.av ∧ (∀ cs, bxOf r = some cs → look σ.box d = some cs) ∧ lookL σ.own (.s d) = ownOf r
  out : ∀ t, (∀ (j d : Nat) (r : HR), L j → rs[j]? = some (d, r) → d ≠ t) → look σ.slot t = look σ0.slot t ∧ lookL σ.own (.s t) = lookL σ0.own (.s t)
  box : ∀ k, (∀ (j d : Nat) (r : HR), L j → rs[j]? = some (d, r) → (bxOf r).isSome = true → d ≠ k) → look σ.box k = look σ0.box k
  cell : ∀ k off, lookL σ.own (.b k off) = lookL σ0.own (.b k off)
  ext : σ.ext = σ0.ext
theorem Lk.start (σ0 : St) (rs : List (Nat × HR)) : Lk σ0 rs (fun _ => False) σ0 := ⟨fun _ _ _ h => h.elim, fun _ _ => ⟨rfl, rfl⟩, fun _ _ => rfl, fun _ _ => rfl, rfl⟩
theorem Lk.step {σ0 : St} {rs : List (Nat × HR)} {L : Nat → Prop} {σ : St} (h : Lk σ0 rs L σ) (hnd : ∀ (i j d : Nat) (r r' : HR), rs[i]? = some (d, r) → rs[j]? = some (d, r') → i = j) {i d : Nat} {r : HR} (hi : rs[i]? = some (d, r)) (hL : ¬ L i) : Lk σ0 rs (fun j => L j ∨ j = i) (σ.res d r) := by
  have hne : ∀ (j d' : Nat) (r' : HR), L j → rs[j]? = some (d', r') → d ≠ d' := fun j d' r' hj hr e => by
    subst e
    have := hnd i j d r r' hi hr
    subst this
    exact hL hj
  refine ⟨fun j d' r' hj hr => ?_, fun t ht => ?_, fun k hk => ?_, fun k off => by rw [res_own, if_neg (by simp)]; exact h.cell k off, (res_ext σ d r).trans h.ext⟩
  · rcases hj with hj | rfl
    · obtain ⟨h1, h2, h3⟩ := h.in_ j d' r' hj hr
      have := hne j d' r' hj hr
      refine ⟨by rw [res_slot, if_neg this]; exact h1, fun cs hcs => ?_, by rw [res_own, if_neg (by simpa using fun e => this e.symm)]; exact h3⟩
      rw [res_box]
      cases bxOf r with
      | none => exact h2 cs hcs
      | some cs' => simp only; rw [if_neg this]; exact h2 cs hcs
    · rw [hi] at hr
      cases hr
      exact ⟨by rw [res_slot, if_pos rfl], fun cs hcs => by rw [res_box, hcs]; simp, by rw [res_own, if_pos rfl]⟩
  · have hdt : d ≠ t := ht i d r (.inr rfl) hi
    obtain ⟨h1, h2⟩ := h.out t (fun j d' r' hj hr => ht j d' r' (.inl hj) hr)
    exact ⟨by rw [res_slot, if_neg hdt]; exact h1, by rw [res_own, if_neg (by simpa using fun e => hdt e.symm)]; exact h2⟩
  · rw [res_box]
    have h1 := h.box k (fun j d' r' hj hr hb => hk j d' r' (.inl hj) hr hb)
    cases hb : bxOf r with
    | none => exact h1
    | some cs =>
      have := hk i d r (.inr rfl) hi (by rw [hb]; rfl)
      simp only
      rw [if_neg this]
      exact h1
theorem Lk.of_iff {σ0 : St} {rs : List (Nat × HR)} {L L' : Nat → Prop} {σ : St} (h : Lk σ0 rs L σ) (he : ∀ j, L' j ↔ L j) : Lk σ0 rs L' σ :=
  ⟨fun j d r hj => h.in_ j d r ((he j).1 hj), fun t ht => h.out t (fun j d r hj => ht j d r ((he j).2 hj)), fun k hk => h.box k (fun j d r hj => hk j d r ((he j).2 hj)), h.cell, h.ext⟩
theorem Lk.same {σ0 : St} {rs : List (Nat × HR)} {L : Nat → Prop} {σ σ' : St} (h : Lk σ0 rs L σ) (h' : Lk σ0 rs L σ') : (∀ t, look σ'.slot t = look σ.slot t) ∧ (∀ k, look σ'.box k = look σ.box k) ∧ (∀ M, lookL σ'.own M = lookL σ.own M) ∧ σ'.ext = σ.ext := by
  have key : ∀ t, look σ'.slot t = look σ.slot t ∧ lookL σ'.own (.s t) = lookL σ.own (.s t) := fun t => by
    by_cases ht : ∃ j r, L j ∧ rs[j]? = some (t, r)
    · obtain ⟨j, r, hj, hr⟩ := ht
      obtain ⟨h1, _, h2⟩ := h.in_ j t r hj hr
      obtain ⟨h3, _, h4⟩ := h'.in_ j t r hj hr
      exact ⟨h3.trans h1.symm, h4.trans h2.symm⟩
    · have hno : ∀ (j d : Nat) (r : HR), L j → rs[j]? = some (d, r) → d ≠ t := fun j d r hj hr e => ht ⟨j, r, hj, by rw [← e]; exact hr⟩
      obtain ⟨h1, h2⟩ := h.out t hno
      obtain ⟨h3, h4⟩ := h'.out t hno
      exact ⟨h3.trans h1.symm, h4.trans h2.symm⟩
  refine ⟨fun t => (key t).1, fun k => ?_, fun M => ?_, h'.ext.trans h.ext.symm⟩
  · by_cases hk : ∃ j r, L j ∧ rs[j]? = some (k, r) ∧ (bxOf r).isSome = true
    · obtain ⟨j, r, hj, hr, hb⟩ := hk
      obtain ⟨cs, hcs⟩ := Option.isSome_iff_exists.1 hb
      rw [(h.in_ j k r hj hr).2.1 cs hcs, (h'.in_ j k r hj hr).2.1 cs hcs]
    · have hno : ∀ (j d : Nat) (r : HR), L j → rs[j]? = some (d, r) → (bxOf r).isSome = true → d ≠ k := fun j d r hj hr hb e => hk ⟨j, r, hj, by rw [← e]; exact hr, hb⟩
      rw [h.box k hno, h'.box k hno]
  · cases M with
    | s t => exact (key t).2
    | b k off => rw [h.cell, h'.cell]

def HandQ (P : Program) (N : Nat) (bx0 : Nat → Option (List PV)) (σ : St) (o : Oper) (d : Nat) (r : HR) : Prop :=
  ∀ (F : Fr) (σ1 : St) (γ : Gh) (a : Act) (w : World), F.n = N → Rel F σ1 γ a w → (∀ t y, Operand.tmp t ∈ o.op.operands.toList → look σ.slot t = some y → look σ1.slot t = some y) → (∀ k cs, bx0 k = some cs → look σ1.box k = some cs) → σ1.ext = σ.ext →
    ∀ Q : Exit → Act → World → Prop, o.wp P a w (Stp P F σ1 γ a w o d (σ1.res d r)) Q
def headW (P : Program) (N : Nat) (st : List Nat) (ops : Array Oper) (bx0 : Nat → Option (List PV)) : List Oper → St → List (Nat × Loc) → (St → List (Nat × Loc) → Prop) → Prop
  | [], σ, sl, K => K σ sl
  | o :: l, σ, sl, K => ∃ d, o.dst = some d ∧ d < N ∧ match guardB ops (look σ.slot) o with
    | some true => if st.contains (d + 1000000) = true then ∃ r, HandQ P N bx0 σ o d r ∧ r.box = none ∧ src P (look σ.slot) o = none ∧ headW P N st ops bx0 l (σ.res d r) sl K else hopx P (look σ.slot) bx0 o (fun r => ((bxOf r).isSome = true → bx0 d = none) ∧ headW P N st ops bx0 l (σ.res d r) (if o.guard.isNone && st.contains d then (match src P (look σ.slot) o with | some S => (d, S) :: sl | none => sl) else sl) K)
    | some false => headW P N st ops bx0 l (σ.put d (.v undef)) sl K
    | none => False
def steals (σ : St) : List (Nat × Loc) → St
  | [] => σ
  | x :: l => stealSt (steals σ l) (.s x.1) x.2
theorem steals_slot (σ : St) : ∀ l : List (Nat × Loc), (steals σ l).slot = σ.slot ∧ (steals σ l).box = σ.box
  | [] => ⟨rfl, rfl⟩
  | x :: l => by
    obtain ⟨h1, h2⟩ := steals_slot σ l
    obtain ⟨h3, h4⟩ := stealSt_slot (steals σ l) (.s x.1) x.2
    exact ⟨h3.trans h1, h4.trans h2⟩
theorem avAt_same {σ σ' : St} (h1 : σ'.slot = σ.slot) (h2 : σ'.box = σ.box) (L : Loc) : σ'.avAt L = σ.avAt L := by cases L <;> simp [St.avAt, h1, h2]
theorem valAt_same {a : Act} {w : World} {γ γ' : Gh} (h : γ'.bx = γ.bx) (L : Loc) : valAt a w γ' L = valAt a w γ L := by cases L <;> simp [valAt, h]
theorem Rel.steals {F : Fr} {σ : St} {γ : Gh} {a : Act} {w : World} (h : Rel F σ γ a w) : ∀ l : List (Nat × Loc), (∀ x ∈ l, σ.avAt (.s x.1) = σ.avAt x.2 ∧ (valAt a w γ x.2 = none ∨ valAt a w γ (.s x.1) = valAt a w γ x.2)) → ∃ γ', γ'.bx = γ.bx ∧ Rel F (steals σ l) γ' a w
  | [], _ => ⟨γ, rfl, h⟩
  | x :: l, hl => by
    obtain ⟨γ', h1, h2⟩ := Rel.steals h l (fun y hy => hl y (List.mem_cons_of_mem _ hy))
    obtain ⟨h3, h4⟩ := hl x List.mem_cons_self
    obtain ⟨h5, h6⟩ := steals_slot σ l
    obtain ⟨γ'', h7, h8⟩ := h2.stealSt (D := .s x.1) (S := x.2) (fun _ _ => by rw [avAt_same h5 h6, avAt_same h5 h6]; exact h3) (fun hne => by
      rw [valAt_same h1] at hne
      rw [valAt_same h1, valAt_same h1]
      exact h4.resolve_left hne)
    exact ⟨γ'', h7.trans h1, h8⟩
section
variable {P : Program} {F : Fr} {ops : Array Oper} {bx0 : Nat → Option (List PV)}
structure StepOK (P : Program) (F : Fr) (ops : Array Oper) (bx0 : Nat → Option (List PV)) (σi : St) (o : Oper) (d : Nat) (r : HR) (S : Option Loc) : Prop where
  dst : o.dst = some d
  lt : d < F.n
  newbox : (bxOf r).isSome = true → bx0 d = none
  src_ : ∀ L, S = some L → avOf (look σi.slot) bx0 L = some r.av ∧ ∀ t, L = .s t → t ∈ o.looksAt ops
  run : ∀ σ γ a w, Rel F σ γ a w → (∀ t y, t ∈ o.looksAt ops → look σi.slot t = some y → look σ.slot t = some y) → (∀ k cs, bx0 k = some cs → look σ.box k = some cs) → (bx0 d = none → look σ.box d = none) → σ.ext = σi.ext →
    ∀ Q i, ops[i]? = some o → wpOp P ops Q i (fun a' w' => ∃ γ' u, a' = a.put (some d) u ∧ Below w.heap.size w w' ∧ (∀ k, (look σ.box k).isSome → γ'.bx k = γ.bx k) ∧ Rel F (σ.res d r) γ' a' w' ∧
      ∀ L, S = some L → valAt a w γ L = some u ∨ valAt a w γ L = none) a w
inductive Run (P : Program) (F : Fr) (ops : Array Oper) (bx0 : Nat → Option (List PV)) : List Oper → St → List (Nat × HR × Option Loc) → St → Prop
  | nil {σ : St} : Run P F ops bx0 [] σ [] σ
  | cons {o : Oper} {l : List Oper} {σ σ' : St} {d : Nat} {r : HR} {S : Option Loc} {rs : List (Nat × HR × Option Loc)} (h : StepOK P F ops bx0 σ o d r S) (t : Run P F ops bx0 l (σ.res d r) rs σ') : Run P F ops bx0 (o :: l) σ ((d, r, S) :: rs) σ'
theorem mem_looks {o : Oper} {t : Nat} (h : Operand.tmp t ∈ o.op.operands.toList) : t ∈ o.looksAt ops := by
  unfold Oper.looksAt
  exact List.mem_append_left _ (List.mem_filterMap.2 ⟨_, h, rfl⟩)
theorem mem_looks_guard {o : Oper} {j t : Nat} {want : Bool} (h : o.guard = some (j, want)) (ht : (ops[j]?).bind (·.dst) = some t) : t ∈ o.looksAt ops := by
  unfold Oper.looksAt
  refine List.mem_append_right _ ?_
  rw [h]
  simp [ht]
theorem src_slot {g : Nat → Option AV} {o : Oper} {t : Nat} (h : src P g o = some (.s t)) : Operand.tmp t ∈ o.op.operands.toList := by
  unfold src at h
  split at h
  · rename_i s ho
    cases h
    simp [ho, Op.operands]
  · rename_i s ho
    cases h
    simp [ho, Op.operands]
  · split at h
    · split at h <;> cases h
    · cases h
  · cases h
theorem headW_run {st : List Nat} {K : St → List (Nat × Loc) → Prop} : ∀ {l : List Oper} {σ : St} {sl : List (Nat × Loc)}, headW P F.n st ops bx0 l σ sl K → ∃ rs σ' sl', Run P F ops bx0 l σ rs σ' ∧ K σ' sl' ∧ ∀ x ∈ sl', x ∈ sl ∨ ∃ r, (x.1, r, some x.2) ∈ rs
  | [], σ, sl, h => ⟨[], σ, sl, .nil, h, fun x hx => .inl hx⟩
  | o :: l, σ, sl, h => by
    obtain ⟨d, hd, hdn, h⟩ := h
    split at h
    · rename_i hg
      split at h
      · obtain ⟨r, hq, hb0, hsrc, h1⟩ := h
        obtain ⟨rs, σ', sl', h5, h6, h7⟩ := headW_run h1
        have hbx : bxOf r = none := by unfold bxOf; rw [hb0]; repeat' split <;> rfl
        refine ⟨(d, r, none) :: rs, σ', sl', .cons ⟨hd, hdn, fun hc => (by rw [hbx] at hc; cases hc), fun L hL => (by cases hL), fun σ1 γ a w hr ht hb hbd hext Q i hi => ?_⟩ h5, h6, fun x hx => ?_⟩
        · unfold wpOp
          rw [hi]
          dsimp only
          rw [guard_ok hr (g := look σ.slot) (fun j want t y hj hdt hy => ht t y (mem_looks_guard hj hdt) hy) hg, if_pos rfl]
          refine .inl (Oper.wp_mono (fun a' w' hst => ?_) (hq F σ1 γ a w rfl hr (fun t y hm hy => ht t y (mem_looks hm) hy) hb hext Q))
          obtain ⟨γ', u, e1, e2, e3, e4, e5⟩ := hst
          exact ⟨γ', u, e1, e2, e3, e4, fun L hL => (by cases hL)⟩
        · rcases h7 x hx with h8 | ⟨r', h8⟩
          · exact .inl h8
          · exact .inr ⟨r', List.mem_cons_of_mem _ h8⟩
      obtain ⟨r, ⟨hnb, h1⟩, h2, h3, h4⟩ := hopx_full (F := F) h hd hdn
      obtain ⟨rs, σ', sl', h5, h6, h7⟩ := headW_run h1
      refine ⟨(d, r, src P (look σ.slot) o) :: rs, σ', sl', .cons ⟨hd, hdn, hnb, fun L hL => ⟨h2 L hL, fun t ht => mem_looks (src_slot (by rw [hL, ht]))⟩, fun σ1 γ a w hr ht hb hbd _ Q i hi => ?_⟩ h5, h6, fun x hx => ?_⟩
      · unfold wpOp
        rw [hi]
        dsimp only
        rw [guard_ok hr (g := look σ.slot) (fun j want t y hj hdt hy => ht t y (mem_looks_guard hj hdt) hy) hg, if_pos rfl]
        refine .inl (Oper.wp_mono (fun a' w' hst => ?_) (h4 σ1 γ a w hr (fun t y hm hy => ht t y (mem_looks hm) hy) hb hbd Q))
        obtain ⟨γ', u, e1, e2, e3, e4, e5⟩ := hst
        exact ⟨γ', u, e1, e2, e3, e4, fun L hL => e5 (look σ.slot) L (fun t y hm hy => ht t y (mem_looks hm) hy) hL⟩
      · rcases h7 x hx with h8 | ⟨r', h8⟩
        · split at h8
          · split at h8
            · rename_i S hS
              rcases List.mem_cons.1 h8 with rfl | h8
              · exact .inr ⟨r, by rw [hS]; exact List.mem_cons_self⟩
              · exact .inl h8
            · exact .inl h8
          · exact .inl h8
        · exact .inr ⟨r', List.mem_cons_of_mem _ h8⟩
    · rename_i hg
      obtain ⟨rs, σ', sl', h5, h6, h7⟩ := headW_run h
      refine ⟨(d, ⟨.v undef, none, none⟩, none) :: rs, σ', sl', .cons ⟨hd, hdn, fun hc => (by cases hc), fun L hL => (by cases hL), fun σ1 γ a w hr ht hb hbd _ Q i hi => ?_⟩ h5, h6, fun x hx => ?_⟩
      · unfold wpOp
        rw [hi]
        dsimp only
        rw [guard_ok hr (g := look σ.slot) (fun j want t y hj hdt hy => ht t y (mem_looks_guard hj hdt) hy) hg, if_neg (by simp), hd]
        exact ⟨γ, undef, rfl, Below.refl _ _, fun _ _ => rfl, hr.put hdn (x := .v undef) (u := undef) rfl (fun k hk => by cases hk), fun L hL => by cases hL⟩
      · rcases h7 x hx with h8 | ⟨r', h8⟩
        · exact .inl h8
        · exact .inr ⟨r', List.mem_cons_of_mem _ h8⟩
    · cases h
end

end Av
end Go.Proofs.YtcloigoajohppaaGreatDoor
/- Abstract states: a region that draws its order. Generic. -/
namespace Go.Proofs.YtcloigoajohppaaGreatDoor
open Go.RowKit
namespace Av

def ssaB (ops : Array Oper) (n : Nat) : Bool := (List.range n).all fun i => match ops[i]? with
  | none => false
  | some o => (o.looksAt ops).all (fun t => (List.range n).all fun j => !decide ((ops[j]?).bind (·.dst) = some t) || (decide (j < i) && Region.waitsFor .any ops i j)) &&
      (List.range n).all (fun j => decide (j = i) || !decide ((ops[j]?).bind (·.dst) = o.dst)) && o.after.all (fun e => !Region.binds .any e || decide (e.on < i))
def doneA (n m : Nat) : Array Bool := ((List.range m).map fun i => decide (i < n)).toArray
def tailB (ops : Array Oper) (n : Nat) : Bool := (decide (n = ops.size) || (Region.sinkB .any ops n && Region.chainB .any ops n && decide (n < ops.size))) && Region.seqB .any ops (ops.size - n) n (doneA n ops.size)
theorem ssa_spec {ops : Array Oper} {n : Nat} (h : ssaB ops n = true) {i : Nat} (hi : i < n) : ∃ o, ops[i]? = some o ∧
    (∀ t ∈ o.looksAt ops, ∀ j, j < n → (ops[j]?).bind (·.dst) = some t → j < i ∧ Region.waitsFor .any ops i j = true) ∧ (∀ j, j < n → (ops[j]?).bind (·.dst) = o.dst → j = i) ∧ (∀ e ∈ o.after, Region.binds .any e = true → e.on < i) := by
  have h1 := List.all_eq_true.1 h i (List.mem_range.2 hi)
  cases ho : ops[i]? with
  | none => rw [ho] at h1; cases h1
  | some o =>
    rw [ho] at h1
    simp only [Bool.and_eq_true] at h1
    obtain ⟨⟨h2, h3⟩, h4⟩ := h1
    refine ⟨o, rfl, fun t ht j hj hd => ?_, fun j hj hd => ?_, fun e he hb => ?_⟩
    · have h5 := List.all_eq_true.1 (List.all_eq_true.1 h2 t ht) j (List.mem_range.2 hj)
      rw [hd] at h5
      simpa using h5
    · have h5 := List.all_eq_true.1 h3 j (List.mem_range.2 hj)
      rw [hd] at h5
      simpa using h5
    · have h5 := Array.all_eq_true_iff_forall_mem.1 h4 e he
      rw [hb] at h5
      simpa using h5
section
variable {P : Program} {F : Fr} {ops : Array Oper} {bx0 : Nat → Option (List PV)}
theorem Run.length {l : List Oper} {σ σ' : St} {rs : List (Nat × HR × Option Loc)} (h : Run P F ops bx0 l σ rs σ') : rs.length = l.length := by
  induction h with
  | nil => rfl
  | cons _ _ ih => simp [ih]
theorem Run.dst {l : List Oper} {σ σ' : St} {rs : List (Nat × HR × Option Loc)} (h : Run P F ops bx0 l σ rs σ') : ∀ {i : Nat} {x : Nat × HR × Option Loc}, rs[i]? = some x → ∃ o, l[i]? = some o ∧ o.dst = some x.1 := by
  induction h with
  | nil => intro i x hx; simp at hx
  | cons h _ ih =>
    intro i x hx
    cases i with
    | zero => simp at hx; subst hx; exact ⟨_, rfl, h.dst⟩
    | succ i => simpa using ih (by simpa using hx)
theorem Run.lk {σ0 : St} {rs : List (Nat × HR)} (hnd : ∀ (i j d : Nat) (r r' : HR), rs[i]? = some (d, r) → rs[j]? = some (d, r') → i = j) {l : List Oper} {σ σ' : St} {rs3 : List (Nat × HR × Option Loc)} (h : Run P F ops bx0 l σ rs3 σ') :
    ∀ k, rs.drop k = (rs3.map fun x => (x.1, x.2.1)) → Lk σ0 rs (· < k) σ → (∀ i d r S, rs3[i]? = some (d, r, S) → ∃ o σi, l[i]? = some o ∧ StepOK P F ops bx0 σi o d r S ∧ Lk σ0 rs (· < k + i) σi) ∧ Lk σ0 rs (· < k + l.length) σ' := by
  induction h with
  | nil => intro k _ hl; exact ⟨fun i d r S hx => by simp at hx, by simpa using hl⟩
  | @cons o l σ σ' d r S rs3 h t ih =>
    intro k hk hl
    have hk0 : rs[k]? = some (d, r) := by
      have := congrArg (·[0]?) hk
      simpa using this
    have hk1 : rs.drop (k + 1) = rs3.map fun x => (x.1, x.2.1) := by
      have := congrArg List.tail hk
      simpa [List.tail_drop] using this
    obtain ⟨h1, h2⟩ := ih (k + 1) hk1 ((hl.step hnd hk0 (Nat.lt_irrefl k)).of_iff fun j => by omega)
    refine ⟨fun i d' r' S' hx => ?_, h2.of_iff fun j => by simp; omega⟩
    cases i with
    | zero => simp at hx; obtain ⟨rfl, rfl, rfl⟩ := hx; exact ⟨o, σ, rfl, h, hl⟩
    | succ i =>
      obtain ⟨o', σi, h3, h4, h5⟩ := h1 i d' r' S' (by simpa using hx)
      exact ⟨o', σi, by simpa using h3, h4, h5.of_iff fun j => by omega⟩
theorem awp_drawG {id : Nat} {l : List Oper} {Q : AX → St → Prop} {σ : St} (st : List Nat) (n : Nat) (hm : P.follows .mixedOrders = true) (hn : n ≤ l.length) (hs : ssaB l.toArray n = true) (ht : tailB l.toArray n = true) (Tl : St → Prop)
    (hTl : ∀ (σ2 : St) (γ2 : Gh) (a2 : Act) (w2 : World), Rel F σ2 γ2 a2 w2 → Tl σ2 → wpList P l.toArray (fun e a' w' => ∃ x σ' γ', e = AX.exit_ x ∧ Q x σ' ∧ Rel F σ' γ' a' w') (l.drop n) a2 w2)
    (h : headW P F.n st l.toArray (look σ.box) (l.take n) σ [] fun σ1 sl => Tl (steals σ1 sl)) : AWp P F (Code.region id l.toArray true) Q σ := by
  intro γ a w hr
  obtain ⟨rs3, σ', sl, hrun, hK, hsl⟩ := headW_run h
  have hsz : l.toArray.size = l.length := by simp
  have hlt : (l.take n).length = n := by simp; omega
  have hlen : rs3.length = n := by rw [hrun.length, hlt]
  have hdst : ∀ {i d r S}, rs3[i]? = some (d, r, S) → i < n ∧ (l.toArray[i]?).bind (·.dst) = some d := fun {i d r S} hx => by
    obtain ⟨o, h1, h2⟩ := hrun.dst hx
    have hi : i < n := by rw [← hlen]; exact (List.getElem?_eq_some_iff.1 hx).1
    refine ⟨hi, ?_⟩
    rw [List.getElem?_take, if_pos hi] at h1
    simp [h1, h2]
  have hrs : ∀ {i : Nat} {d : Nat} {r : HR}, (rs3.map fun x => (x.1, x.2.1))[i]? = some (d, r) → ∃ S, rs3[i]? = some (d, r, S) := fun {i d r} hx => by
    rw [List.getElem?_map] at hx
    cases hq : rs3[i]? with
    | none => rw [hq] at hx; cases hx
    | some x =>
      rw [hq] at hx
      cases hx
      exact ⟨x.2.2, rfl⟩
  have hnd : ∀ (i j d : Nat) (r r' : HR), (rs3.map fun x => (x.1, x.2.1))[i]? = some (d, r) → (rs3.map fun x => (x.1, x.2.1))[j]? = some (d, r') → i = j := fun i j d r r' hi hj => by
    obtain ⟨S, hi⟩ := hrs hi
    obtain ⟨S', hj⟩ := hrs hj
    obtain ⟨h1, h2⟩ := hdst hi
    obtain ⟨h3, h4⟩ := hdst hj
    obtain ⟨o, ho, _, h5, _⟩ := ssa_spec hs h3
    refine h5 i h1 ?_
    rw [h2]
    rw [ho] at h4
    exact h4.symm
  obtain ⟨hsteps, hfin⟩ := hrun.lk (σ0 := σ) hnd 0 (by simp) ((Lk.start σ _).of_iff fun j => by simp)
  have inv0 : HeadInv .any l.toArray n (Array.replicate l.toArray.size false) :=
    ⟨by simp, fun j oj _ hl => (by rw [getD_replicate_false] at hl; cases hl), fun t _ ht => getD_in (by simpa using ht) (getD_replicate_false _ _)⟩
  have hback : ∀ i o, i < n → l.toArray[i]? = some o → ∀ e ∈ o.after, Region.binds .any e = true → e.on < i := fun i o hi ho => by
    obtain ⟨o', ho', _, _, h1⟩ := ssa_spec hs hi
    rw [ho] at ho'
    cases ho'
    exact h1
  simp only [tailB, Bool.and_eq_true, Bool.or_eq_true, decide_eq_true_eq] at ht
  obtain ⟨htail, hseq⟩ := ht
  -- what holds while the head runs
  let Inv : Array Bool → Act → World → Prop := fun listed a w => ∃ σ1 γ, Rel F σ1 γ a w ∧ Lk σ (rs3.map fun x => (x.1, x.2.1)) (fun j => j < n ∧ listed.getD j false = true) σ1 ∧
    ∀ i d r L, rs3[i]? = some (d, r, some L) → listed.getD i false = true → valAt a w γ L = none ∨ valAt a w γ (.s d) = valAt a w γ L
  have hbxk : ∀ {L : Nat → Prop} {σ1 : St} {k : Nat} {cs : List PV}, Lk σ (rs3.map fun x => (x.1, x.2.1)) L σ1 → look σ.box k = some cs → look σ1.box k = some cs := fun {L σ1 k cs} hl hk => by
    rw [hl.box k (fun j d r _ hj hb e => by
      obtain ⟨S, hj⟩ := hrs hj
      obtain ⟨o, σi, _, h1, _⟩ := hsteps j d r S hj
      have := h1.newbox hb
      rw [e, hk] at this
      cases this)]
    exact hk
  refine wp_region_any hm ?_
  have hcnt : cntU n (Array.replicate l.toArray.size false) = n := by
    have : ∀ m, m ≤ l.length → cntU m (Array.replicate l.toArray.size false) = m := fun m => by
      induction m with
      | zero => intro _; rfl
      | succ m ih =>
        intro hm
        unfold cntU
        rw [ih (by omega)]
        simp [show m < l.length by omega]
    exact this n hn
  have goal := any_head (P := P) (Q := fun e a' w' => ∃ x σ' γ', e = AX.exit_ x ∧ Q x σ' ∧ Rel F σ' γ' a' w') (g := l.toArray.size - n) (Inv := Inv) (by rw [hsz]; exact hn) hback (by
      rcases htail with h1 | h1
      · exact .inl h1
      · exact .inr ⟨h1.1.1, h1.1.2, h1.2⟩) ?step ?fin n _ a w.drew hcnt inv0 ⟨σ, γ, hr.grow (Below.refl _ _).drew, (Lk.start σ _).of_iff fun j => ⟨fun hj => by rw [getD_replicate_false] at hj; exact absurd hj.2 (by simp), fun hj => hj.elim⟩, fun i d r L _ hl => by rw [getD_replicate_false] at hl; cases hl⟩
  · rw [show n + (l.toArray.size - n) = l.toArray.size by rw [hsz]; omega] at goal
    exact goal
  case step =>
    rintro i listed a w hi hready hinv ⟨σ1, γ1, h1, h2, h3⟩
    obtain ⟨hun, o, ho, hall⟩ := mem_ready.1 hready
    obtain ⟨o', ho', hssa, _, _⟩ := ssa_spec hs hi
    rw [ho] at ho'
    cases ho'
    have hx : ∃ x, rs3[i]? = some x := ⟨rs3[i]'(by rw [hlen]; exact hi), List.getElem?_eq_getElem _⟩
    obtain ⟨⟨d, r, S⟩, hx⟩ := hx
    obtain ⟨o', σi, h4, h5, h6⟩ := hsteps i d r S hx
    have : o' = o := by
      rw [List.getElem?_take, if_pos hi] at h4
      have h7 : l.toArray[i]? = l[i]? := by simp
      rw [h7, h4] at ho
      exact Option.some.inj ho
    subst this
    have hmap : (rs3.map fun x => (x.1, x.2.1))[i]? = some (d, r) := by rw [List.getElem?_map, hx]; rfl
    have hwait : ∀ j, Region.waitsFor .any l.toArray i j = true → listed.getD j false = true := fun j hj => by
      obtain ⟨oj, hoj, e, he, hb, hon⟩ := Region.waitsFor_spec hj
      rw [ho] at hoj
      cases hoj
      rw [← hon]
      exact hall e he hb
    have hops : ∀ t y, t ∈ o'.looksAt l.toArray → look σi.slot t = some y → look σ1.slot t = some y := fun t y htm hy => by
      by_cases hex : ∃ j d' r', j < n ∧ (rs3.map fun x => (x.1, x.2.1))[j]? = some (d', r') ∧ d' = t
      · obtain ⟨j, d', r', hj, hjx, rfl⟩ := hex
        obtain ⟨S', hjx'⟩ := hrs hjx
        obtain ⟨hji, hw⟩ := hssa d' htm j hj (hdst hjx').2
        have h7 := (h6.in_ j d' r' (by omega) hjx).1
        rw [h7] at hy
        cases hy
        exact (h2.in_ j d' r' ⟨hj, hwait j hw⟩ hjx).1
      · rw [(h6.out t fun j d' r' hj hjx e => hex ⟨j, d', r', by omega, hjx, e⟩).1] at hy
        rw [(h2.out t fun j d' r' hj hjx e => hex ⟨j, d', r', hj.1, hjx, e⟩).1]
        exact hy
    have hLi : ¬ (i < n ∧ listed.getD i false = true) := fun h => by rw [getD_both hun] at h; exact absurd h.2 (by simp)
    have hnone : look σ.box d = none → look σ1.box d = none := fun hd => by
      rw [h2.box d (fun j d' r' hj hjx _ e => by
        subst e
        have := hnd i j d' r r' hmap hjx
        subst this
        exact hLi hj)]
      exact hd
    refine wpOp_mono (fun a' w' hst => ?_) (h5.run σ1 γ1 a w h1 hops (fun k cs hk => hbxk h2 hk) hnone (h2.ext.trans h6.ext.symm) _ i ho)
    obtain ⟨γ', u, rfl, e2, e3, e4, e5⟩ := hst
    have hisz : i < listed.size := by rw [hinv.size, hsz]; omega
    have hset : ∀ j, (listed.setIfInBounds i true).getD j false = true ↔ listed.getD j false = true ∨ j = i := fun j => by
      by_cases hji : i = j
      · subst hji; simp [hisz]
      · rw [getD_set_ne false hji]; simp [show ¬ j = i from fun e => hji e.symm]
    have hd' : d < a.tmps.size := by rw [h1.size]; exact h5.lt
    refine ⟨_, γ', e4, (h2.step hnd hmap hLi).of_iff fun j => ?_, fun m dm rm L hmx hlm => ?_⟩
    · rw [hset]
      constructor
      · rintro ⟨h7, h8 | rfl⟩
        · exact .inl ⟨h7, h8⟩
        · exact .inr rfl
      · rintro (⟨h7, h8⟩ | rfl)
        · exact ⟨h7, .inl h8⟩
        · exact ⟨hi, .inr rfl⟩
    · obtain ⟨om, σm, hm1, hm2, hm3⟩ := hsteps m dm rm (some L) hmx
      obtain ⟨hav, hlooks⟩ := hm2.src_ L rfl
      -- the place's value is as it was
      have hkeep : (∀ t, L = .s t → d ≠ t) → valAt (a.put (some d) u) w' γ' L = valAt a w γ1 L := fun hne => by
        cases L with
        | s t => simp [valAt, getD_put hd', hne t rfl]
        | b k off =>
          have hk : ∃ cs, look σ.box k = some cs := by
            cases hq : look σ.box k with
            | none => simp [avOf, hq] at hav
            | some cs => exact ⟨cs, rfl⟩
          obtain ⟨cs, hk⟩ := hk
          have hk1 : (look σ1.box k).isSome := by rw [hbxk h2 hk]; rfl
          show w'.cell? ⟨γ'.bx k, off, none⟩ = w.cell? ⟨γ1.bx k, off, none⟩
          rw [e3 k hk1]
          exact e2.cell (p := ⟨γ1.bx k, off, none⟩) (h1.box_lt hk1).1
      have hmn : m < n := (hdst hmx).1
      rcases (hset m).1 hlm with hlm | rfl
      · -- m was done before
        have hdm : d ≠ dm := fun e => by
          subst e
          have := hnd i m d r rm hmap (by rw [List.getElem?_map, hmx]; rfl)
          subst this
          exact hLi ⟨hi, hlm⟩
        have hne : ∀ t, L = .s t → d ≠ t := fun t ht e => by
          subst e
          obtain ⟨om', hom', hss, _, _⟩ := ssa_spec hs hmn
          have : om' = om := by
            rw [List.getElem?_take, if_pos hmn] at hm1
            have h7 : l.toArray[m]? = l[m]? := by simp
            rw [h7, hm1] at hom'
            exact (Option.some.inj hom').symm
          subst this
          obtain ⟨_, hw⟩ := hss d (hlooks d ht) i hi (hdst hx).2
          obtain ⟨oj, hoj, e, he, hb, hon⟩ := Region.waitsFor_spec hw
          have := hinv.closed m oj hoj hlm e he hb
          rw [hon, getD_both hun] at this
          cases this
        rw [hkeep hne, show valAt (a.put (some d) u) w' γ' (.s dm) = valAt a w γ1 (.s dm) by simp [valAt, getD_put hd', hdm]]
        exact h3 m dm rm L hmx hlm
      · rw [hx] at hmx
        cases hmx
        have hne : ∀ t, L = .s t → d ≠ t := fun t ht e => by
          subst e
          obtain ⟨om', hom', hss, _, _⟩ := ssa_spec hs hmn
          have : om' = om := by
            rw [List.getElem?_take, if_pos hmn] at hm1
            have h7 : l.toArray[m]? = l[m]? := by simp
            rw [h7, hm1] at hom'
            exact (Option.some.inj hom').symm
          subst this
          exact absurd (hss d (hlooks d ht) m hmn (hdst hx).2).1 (Nat.lt_irrefl _)
        rw [hkeep hne]
        rcases e5 L rfl with h7 | h7
        · right
          rw [h7]
          simp [valAt, getD_put hd']
        · exact .inl h7
  case fin =>
    rintro listed a w hinv hdone ⟨σ1, γ1, h1, h2, h3⟩
    have hdone' : ∀ i, i < n → listed.getD i false = true := fun i hi => by
      have h4 := hdone i hi
      have hs : i < listed.size := by rw [hinv.size, hsz]; omega
      simp [hs] at h4 ⊢
      exact h4
    have hLk : Lk σ (rs3.map fun x => (x.1, x.2.1)) (· < 0 + (l.take n).length) σ1 := h2.of_iff fun j => by
      rw [hlt]
      constructor
      · intro h4; exact ⟨by omega, hdone' j (by omega)⟩
      · intro h4; omega
    obtain ⟨g1, g2, g3, g4⟩ := hLk.same hfin
    have hrel := h1.congr g1 g2 g3 g4
    have hlisted : listed = doneA n l.toArray.size := by
      apply Array.ext
      · rw [hinv.size]; simp [doneA]
      · intro i hi1 hi2
        have hil : i < l.toArray.size := by rw [← hinv.size]; exact hi1
        have : (doneA n l.toArray.size)[i] = decide (i < n) := by simp [doneA]
        rw [this]
        by_cases hin : i < n
        · have := hdone' i hin
          simp [hi1] at this
          rw [this]; simp [hin]
        · have := hinv.tail i (by omega) hil
          simp [hi1] at this
          rw [this]; simp [hin]
    obtain ⟨γ2, _, hrel2⟩ := hrel.steals sl (fun x hx => by
      rcases hsl x hx with h4 | ⟨r, h4⟩
      · cases h4
      · obtain ⟨i, hi⟩ := List.mem_iff_getElem?.1 h4
        obtain ⟨o, σi, h5, h6, h7⟩ := hsteps i _ _ _ hi
        have hin := (hdst hi).1
        refine ⟨?_, h3 i _ _ _ hi (hdone' i hin)⟩
        obtain ⟨hav, hlooks⟩ := h6.src_ x.2 rfl
        have hd1 : σ'.avAt (.s x.1) = some r.av := (hfin.in_ i x.1 r (by rw [hlt]; omega) (by rw [List.getElem?_map, hi]; rfl)).1
        rw [hd1, ← hav]
        cases hL : x.2 with
        | s t =>
          show look σi.slot t = look σ'.slot t
          obtain ⟨o', ho', hss, _, _⟩ := ssa_spec hs hin
          have : o' = o := by
            rw [List.getElem?_take, if_pos hin] at h5
            have h8 : l.toArray[i]? = l[i]? := by simp
            rw [h8, h5] at ho'
            exact (Option.some.inj ho').symm
          subst this
          by_cases hex : ∃ j d' r', j < n ∧ (rs3.map fun x => (x.1, x.2.1))[j]? = some (d', r') ∧ d' = t
          · obtain ⟨j, d', r', hj, hjx, rfl⟩ := hex
            obtain ⟨S', hjx'⟩ := hrs hjx
            obtain ⟨hji, _⟩ := hss d' (hlooks d' hL) j hj (hdst hjx').2
            rw [(h7.in_ j d' r' (by omega) hjx).1, (hfin.in_ j d' r' (by rw [hlt]; omega) hjx).1]
          · rw [(h7.out t fun j d' r' hj hjx e => hex ⟨j, d', r', by omega, hjx, e⟩).1, (hfin.out t fun j d' r' hj hjx e => hex ⟨j, d', r', by rw [hlt] at hj; omega, hjx, e⟩).1]
        | b k off =>
          show ((look σ.box k).bind (·[off]?)).map PV.av = ((look σ'.box k).bind (·[off]?)).map PV.av
          have hk : ∃ cs, look σ.box k = some cs := by
            rw [hL] at hav
            cases hq : look σ.box k with
            | none => simp [avOf, hq] at hav
            | some cs => exact ⟨cs, rfl⟩
          obtain ⟨cs, hk⟩ := hk
          rw [hbxk hfin hk, hk])
    have hwl := hTl _ γ2 a w hrel2 hK
    have hdl : (l.drop n).length = l.toArray.size - n := by simp
    have := wpAny_of_seq (md := .any) (Q' := fun e a' w' => ∃ x σ' γ', e = AX.exit_ x ∧ Q x σ' ∧ Rel F σ' γ' a' w') (ops := l.toArray) (l.drop n) n listed a w (fun j => by simp [List.getElem?_drop]) (by rw [hdl, hlisted]; exact hseq) hwl
    rwa [hdl] at this
theorem awp_draw {id : Nat} {l : List Oper} {Q : AX → St → Prop} {σ : St} (st : List Nat) (n : Nat) (hm : P.follows .mixedOrders = true) (hn : n ≤ l.length) (hs : ssaB l.toArray n = true) (ht : tailB l.toArray n = true)
    (h : headW P F.n st l.toArray (look σ.box) (l.take n) σ [] fun σ1 sl => sops P F.n st l.toArray (l.drop n) (steals σ1 sl) (Q .normal)) : AWp P F (Code.region id l.toArray true) Q σ :=
  awp_drawG st n hm hn hs ht (fun σ => sops P F.n st l.toArray (l.drop n) σ (Q .normal))
    (fun σ2 γ2 a2 w2 hrel2 hK => sops_ok (P := P) (F := F) (Q := fun e a' w' => ∃ x σ' γ', e = AX.exit_ x ∧ Q x σ' ∧ Rel F σ' γ' a' w') (fun σ'' γ'' a'' w'' hq hr'' => ⟨.normal, σ'', γ'', rfl, hq, hr''⟩) (l.drop n) _ γ2 a2 w2 hrel2 hK) h
end

end Av
end Go.Proofs.YtcloigoajohppaaGreatDoor
/- Abstract states: the walk's steps. Generic. -/
namespace Go.Proofs.YtcloigoajohppaaGreatDoor
open Go.RowKit
namespace Av
variable {P : Program} {F : Fr}
theorem sops_go {n : Nat} {st : List Nat} {ops : Array Oper} {o : Oper} {l : List Oper} {σ : St} {K : St → Prop} (h : match guardB ops (look σ.slot) o with
    | some true => sop P n st σ o fun σ' => sops P n st ops l σ' K
    | some false => ∃ d, o.dst = some d ∧ d < n ∧ sops P n st ops l (σ.put d (.v undef)) K
    | none => False) : sops P n st ops (o :: l) σ K := h
theorem sops_end {n : Nat} {st : List Nat} {ops : Array Oper} {σ : St} {K : St → Prop} (h : K σ) : sops P n st ops [] σ K := h
theorem headW_go {N : Nat} {st : List Nat} {ops : Array Oper} {bx0 : Nat → Option (List PV)} {o : Oper} {l : List Oper} {σ : St} {sl : List (Nat × Loc)} {K : St → List (Nat × Loc) → Prop} (h : ∃ d, o.dst = some d ∧ d < N ∧ match guardB ops (look σ.slot) o with
    | some true => if st.contains (d + 1000000) = true then ∃ r, HandQ P N bx0 σ o d r ∧ r.box = none ∧ src P (look σ.slot) o = none ∧ headW P N st ops bx0 l (σ.res d r) sl K else hopx P (look σ.slot) bx0 o (fun r => ((bxOf r).isSome = true → bx0 d = none) ∧ headW P N st ops bx0 l (σ.res d r) (if o.guard.isNone && st.contains d then (match src P (look σ.slot) o with | some S => (d, S) :: sl | none => sl) else sl) K)
    | some false => headW P N st ops bx0 l (σ.put d (.v undef)) sl K
    | none => False) : headW P N st ops bx0 (o :: l) σ sl K := h
theorem headW_end {N : Nat} {st : List Nat} {ops : Array Oper} {bx0 : Nat → Option (List PV)} {σ : St} {sl : List (Nat × Loc)} {K : St → List (Nat × Loc) → Prop} (h : K σ sl) : headW P N st ops bx0 [] σ sl K := h
theorem awp_seq_k {x y : Code} {Q : AX → St → Prop} {σ : St} (h : ∀ K : St → Prop, (∀ σ, AWp P F y Q σ → K σ) → AWp P F x (athen K Q) σ) : AWp P F (x.seq y) Q σ := awp_seq (h _ fun _ h => h)
theorem awp_if {c : Operand} {x y : Code} {Q : AX → St → Prop} {σ : St} (h : match evo (look σ.slot) c with
    | some (.v (.bool t)) => (t = true → AWp P F x Q σ) ∧ (t = false → AWp P F y Q σ)
    | _ => False) : AWp P F (.cond c x y) Q σ := by
  split at h
  · rename_i t ht
    exact awp_cond ht h.1 h.2
  · cases h
theorem awp_draw' {id : Nat} {l l1 l2 : List Oper} {Q : AX → St → Prop} {σ : St} (st : List Nat) (n : Nat) (hm : P.follows .mixedOrders = true) (hc : (decide (n ≤ l.length) && ssaB l.toArray n && tailB l.toArray n) = true) (h1 : l.take n = l1) (h2 : l.drop n = l2)
    (h : ∀ bx0 : Nat → Option (List PV), bx0 = look σ.box → headW P F.n st l.toArray bx0 l1 σ [] fun σ1 sl => sops P F.n st l.toArray l2 (steals σ1 sl) (Q .normal)) : AWp P F (Code.region id l.toArray true) Q σ := by
  simp only [Bool.and_eq_true, decide_eq_true_eq] at hc
  refine awp_draw st n hm hc.1.1 hc.1.2 hc.2 ?_
  rw [h1, h2]
  exact h _ rfl
def AllS {α : Type} (f : Nat → Option α) : List (Nat × α) → Prop
  | [] => True
  | x :: l => f x.1 = some x.2 ∧ AllS f l
def AllO (σ σ' : St) : List (Loc × (TypeId × Nat)) → Prop
  | [] => True
  | x :: l => (lookL σ.own x.1 = some x.2 ∧ σ'.avAt x.1 = σ.avAt x.1) ∧ AllO σ σ' l
def AllR (b : List (Nat × List PV)) : List (Nat × AV) → Prop
  | [] => True
  | x :: l => (x.2.refs.all fun k => (look b k).isSome) = true ∧ AllR b l
theorem AllS.look {α : Type} {f : Nat → Option α} : ∀ {l : List (Nat × α)}, AllS f l → ∀ {t : Nat} {x : α}, look l t = some x → f t = some x
  | [], _, t, x, hx => by cases hx
  | (k, y) :: l, h, t, x, hx => by
    rw [look_cons] at hx
    by_cases hk : k = t
    · rw [if_pos hk] at hx
      cases hx
      rw [← hk]
      exact h.1
    · rw [if_neg hk] at hx
      exact AllS.look h.2 hx
theorem AllO.look {σ σ' : St} : ∀ {l : List (Loc × (TypeId × Nat))}, AllO σ σ' l → ∀ {L : Loc} {e : TypeId × Nat}, lookL l L = some e → lookL σ.own L = some e ∧ σ'.avAt L = σ.avAt L
  | [], _, t, x, hx => by cases hx
  | (k, y) :: l, h, t, x, hx => by
    rw [lookL_cons] at hx
    by_cases hk : k = t
    · rw [if_pos hk] at hx
      cases hx
      rw [← hk]
      exact h.1
    · rw [if_neg hk] at hx
      exact AllO.look h.2 hx
theorem AllR.look {b : List (Nat × List PV)} : ∀ {l : List (Nat × AV)}, AllR b l → ∀ {t : Nat} {x : AV}, look l t = some x → ∀ k ∈ x.refs, (look b k).isSome
  | [], _, t, x, hx => by cases hx
  | (k, y) :: l, h, t, x, hx => by
    rw [look_cons] at hx
    by_cases hk : k = t
    · rw [if_pos hk] at hx
      cases hx
      exact fun j hj => List.all_eq_true.1 h.1 j hj
    · rw [if_neg hk] at hx
      exact AllR.look h.2 hx
theorem sub_mk {σ σ' : St} (h : AllS (look σ.slot) σ'.slot ∧ AllS (look σ.box) σ'.box ∧ AllO σ σ' σ'.own ∧ AllR σ'.box σ'.slot ∧ σ'.ext = σ.ext) : σ.Sub σ' :=
  ⟨fun _ _ hx => h.1.look hx, fun _ _ hx => h.2.1.look hx, fun _ _ hx => h.2.2.1.look hx, fun _ _ hx => h.2.2.2.1.look hx, h.2.2.2.2⟩
theorem awp_loop_by {ι : Type} {c : Code} {Q : AX → St → Prop} {σ : St} (U : ι → St → St) (m : ι → Nat) (i0 : ι) (h0 : σ.Sub (U i0 σ)) (round : ∀ (R : ι → St → Prop), (∀ j σ', σ'.Sub (U j σ) → R j σ') → ∀ i, AWp P F c (athen (fun σ' => ∃ j, m j < m i ∧ R j σ') Q) (U i σ)) : AWp P F (.loop c) Q σ :=
  awp_loop (fun i => U i σ) m i0 h0 (round _ fun _ _ h => h)
def keepS {α : Type} (ks : List Nat) (l : List (Nat × α)) : List (Nat × α) := l.filter fun x => ks.contains x.1
end Av
end Go.Proofs.YtcloigoajohppaaGreatDoor
