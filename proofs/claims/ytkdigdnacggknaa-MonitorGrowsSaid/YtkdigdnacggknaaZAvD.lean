import Derived.Deep.MidRow
import Derived.Laws.AppendOwn
import Derived.Test.YtkdigdnacggknaaZMix
/- Abstract states for walks: data as trees of rows, boxes of the frame by name, rows that the frame owns; what it says of the machine's memory. Generic: no program's numbers. -/
namespace Go.Proofs.Ytkdigdnacggknaa
open Go.RowKit
namespace Av

/-- A cell's datum: a value that is just this value, or a slice that holds these rows of sz cells. -/
inductive PV where
  | v (x : Value)
  | sl (sz : Nat) (rows : List (List PV))
instance : Inhabited PV := ⟨.v undef⟩
/-- One of a call's results. -/
inductive CV where
  | c (x : PV)
  | g (xs : List PV)
/-- A slot's datum. -/
inductive AV where
  | v (x : Value)
  | sl (sz : Nat) (rows : List (List PV))
  | agg (xs : List PV)
  | tup (vs : List CV)
  | ref (k off : Nat)
  | ept (row : List PV)
  | clo (f : Nat) (caps : List (Nat × Nat))
  | fnv (f : Nat) (caps : List (List PV))
def PV.av : PV → AV
  | .v x => .v x
  | .sl sz rows => .sl sz rows
def CV.av : CV → AV
  | .c x => x.av
  | .g xs => .agg xs

abbrev Reader := Addr → Option Value

inductive RepP (R : Reader) : PV → Value → Prop
  | v (x : Value) (h : x.oneCell' = true) : RepP R (.v x) x
  | sl (sz : Nat) (rows : List (List PV)) (A : Option Addr) (cap : Nat) (f : Nat → Nat → Value) (hsz : ∀ (k : Nat) (row : List PV), rows[k]? = some row → row.length = sz)
      (hA : rows = [] ∨ ∃ b off, A = some ⟨b, off, none⟩ ∧ ∀ (k : Nat) (row : List PV) (j : Nat) (p : PV), rows[k]? = some row → row[j]? = some p → R ⟨b, off + k * sz + j, none⟩ = some (f k j))
      (hf : ∀ (k : Nat) (row : List PV) (j : Nat) (p : PV), rows[k]? = some row → row[j]? = some p → RepP R p (f k j)) (hc : rows.length ≤ cap) : RepP R (.sl sz rows) (.slice A rows.length cap)
theorem RepP.one {R : Reader} {p : PV} {u : Value} (h : RepP R p u) : u.oneCell' = true := by
  cases h with
  | v _ h => exact h
  | sl => rfl
theorem RepP.mono {R R' : Reader} (hR : ∀ p v, R p = some v → R' p = some v) {p : PV} {u : Value} (h : RepP R p u) : RepP R' p u := by
  induction h with
  | v x h => exact .v x h
  | sl sz rows A cap f hsz hA hf hc ih =>
    refine .sl sz rows A cap f hsz ?_ ih hc
    rcases hA with h | ⟨b, off, e, h⟩
    · exact .inl h
    · exact .inr ⟨b, off, e, fun k row j p h1 h2 => hR _ _ (h k row j p h1 h2)⟩

inductive RepL (R : Reader) : List PV → List Value → Prop
  | nil : RepL R [] []
  | cons {p : PV} {u : Value} {ps : List PV} {us : List Value} (h : RepP R p u) (t : RepL R ps us) : RepL R (p :: ps) (u :: us)
theorem RepL.mono {R R' : Reader} (hR : ∀ p v, R p = some v → R' p = some v) {ps : List PV} {us : List Value} (h : RepL R ps us) : RepL R' ps us := by
  induction h with
  | nil => exact .nil
  | cons h _ ih => exact .cons (h.mono hR) ih
theorem RepL.length {R : Reader} {ps : List PV} {us : List Value} (h : RepL R ps us) : us.length = ps.length := by
  induction h with
  | nil => rfl
  | cons _ _ ih => simp [ih]
theorem RepL.get {R : Reader} {ps : List PV} {us : List Value} (h : RepL R ps us) : ∀ {i : Nat} {p : PV}, ps[i]? = some p → ∃ u, us[i]? = some u ∧ RepP R p u := by
  induction h with
  | nil => intro i p hp; simp at hp
  | cons h _ ih =>
    intro i p hp
    cases i with
    | zero => simp at hp; subst hp; exact ⟨_, rfl, h⟩
    | succ i => simpa using ih (by simpa using hp)
theorem RepL.of {R : Reader} : ∀ {ps : List PV} {us : List Value}, ps.length = us.length → (∀ (i : Nat) (p : PV) (u : Value), ps[i]? = some p → us[i]? = some u → RepP R p u) → RepL R ps us
  | [], [], _, _ => .nil
  | p :: ps, u :: us, hl, h => .cons (h 0 p u rfl rfl) (RepL.of (by simpa using hl) fun i q v h1 h2 => h (i + 1) q v (by simpa using h1) (by simpa using h2))
theorem RepL.drop {R : Reader} {ps : List PV} {us : List Value} (h : RepL R ps us) (n : Nat) : RepL R (ps.drop n) (us.drop n) := by
  induction h generalizing n with
  | nil => simp; exact .nil
  | cons h t ih => cases n with
    | zero => exact .cons h t
    | succ n => simpa using ih n
theorem RepL.take {R : Reader} {ps : List PV} {us : List Value} (h : RepL R ps us) (n : Nat) : RepL R (ps.take n) (us.take n) := by
  induction h generalizing n with
  | nil => simp; exact .nil
  | cons h t ih => cases n with
    | zero => simp; exact .nil
    | succ n => simpa using .cons h (ih n)
theorem RepL.append {R : Reader} {ps qs : List PV} {us vs : List Value} (h : RepL R ps us) (h' : RepL R qs vs) : RepL R (ps ++ qs) (us ++ vs) := by
  induction h with
  | nil => exact h'
  | cons h _ ih => exact .cons h ih
theorem RepL.one {R : Reader} {ps : List PV} {us : List Value} (h : RepL R ps us) : ∀ u ∈ us, u.oneCell' = true := by
  induction h with
  | nil => intro u hu; cases hu
  | cons h _ ih =>
    intro u hu
    rcases List.mem_cons.1 hu with rfl | hu
    · exact h.one
    · exact ih u hu
theorem RepL.set {R : Reader} {ps : List PV} {us : List Value} (h : RepL R ps us) {p : PV} {u : Value} (hp : RepP R p u) (i : Nat) : RepL R (ps.set i p) (us.set i u) := by
  induction h generalizing i with
  | nil => simp; exact .nil
  | cons h t ih => cases i with
    | zero => exact .cons hp t
    | succ i => exact .cons h (ih i)

inductive RepC (R : Reader) : CV → Value → Prop
  | c {p : PV} {u : Value} (h : RepP R p u) : RepC R (.c p) u
  | g {ps : List PV} {us : List Value} (h : RepL R ps us) : RepC R (.g ps) (.agg us.toArray)
inductive RepCL (R : Reader) : List CV → List Value → Prop
  | nil : RepCL R [] []
  | cons {p : CV} {u : Value} {ps : List CV} {us : List Value} (h : RepC R p u) (t : RepCL R ps us) : RepCL R (p :: ps) (u :: us)
/-- A pointer to cells that can be read, and hold this. -/
def RepE (R : Reader) (row : List PV) (u : Value) : Prop :=
  ∃ b off us, u = .pointer (some ⟨b, off, none⟩) ∧ RepL R row us ∧ ∀ (i : Nat) (x : Value), us[i]? = some x → R ⟨b, off + i, none⟩ = some x
inductive RepEL (R : Reader) : List (List PV) → List Value → Prop
  | nil : RepEL R [] []
  | cons {p : List PV} {u : Value} {ps : List (List PV)} {us : List Value} (h : RepE R p u) (t : RepEL R ps us) : RepEL R (p :: ps) (u :: us)
/-- What a slot's datum says of its value; bx: where the frame's boxes lie. -/
def RepA (R : Reader) (bx : Nat → Nat) : AV → Value → Prop
  | .v x, u => u = x
  | .sl sz rows, u => RepP R (.sl sz rows) u
  | .agg xs, u => ∃ us, u = .agg us.toArray ∧ RepL R xs us
  | .tup vs, u => ∃ us, u = .tuple us.toArray ∧ RepCL R vs us
  | .ref k off, u => u = .pointer (some ⟨bx k, off, none⟩)
  | .ept row, u => RepE R row u
  | .clo f caps, u => u = .func (.func f) #[] (caps.map fun c => Value.pointer (some ⟨bx c.1, c.2, none⟩)).toArray
  | .fnv f caps, u => ∃ us, u = .func (.func f) #[] us.toArray ∧ RepEL R caps us
theorem RepC.mono {R R' : Reader} (hR : ∀ p v, R p = some v → R' p = some v) {p : CV} {u : Value} (h : RepC R p u) : RepC R' p u := by
  cases h with
  | c h => exact .c (h.mono hR)
  | g h => exact .g (h.mono hR)
theorem RepCL.mono {R R' : Reader} (hR : ∀ p v, R p = some v → R' p = some v) {ps : List CV} {us : List Value} (h : RepCL R ps us) : RepCL R' ps us := by
  induction h with
  | nil => exact .nil
  | cons h _ ih => exact .cons (h.mono hR) ih
theorem RepE.mono {R R' : Reader} (hR : ∀ p v, R p = some v → R' p = some v) {row : List PV} {u : Value} (h : RepE R row u) : RepE R' row u := by
  obtain ⟨b, off, us, e, h1, h2⟩ := h
  exact ⟨b, off, us, e, h1.mono hR, fun i x hx => hR _ _ (h2 i x hx)⟩
theorem RepEL.mono {R R' : Reader} (hR : ∀ p v, R p = some v → R' p = some v) {ps : List (List PV)} {us : List Value} (h : RepEL R ps us) : RepEL R' ps us := by
  induction h with
  | nil => exact .nil
  | cons h _ ih => exact .cons (h.mono hR) ih
theorem RepP.av {R : Reader} {bx : Nat → Nat} {p : PV} {u : Value} (h : RepP R p u) : RepA R bx p.av u := by
  cases h with
  | v => rfl
  | sl sz rows A cap f hsz hA hf hc => exact RepP.sl sz rows A cap f hsz hA hf hc
theorem RepC.av {R : Reader} {bx : Nat → Nat} {p : CV} {u : Value} (h : RepC R p u) : RepA R bx p.av u := by
  cases h with
  | c h => exact h.av
  | g h => exact ⟨_, rfl, h⟩
/-- The boxes that a datum points into. -/
def AV.refs : AV → List Nat
  | .ref k _ => [k]
  | .clo _ caps => caps.map Prod.fst
  | _ => []
theorem RepA.mono {R R' : Reader} (hR : ∀ p v, R p = some v → R' p = some v) {bx bx' : Nat → Nat} {x : AV} {u : Value} (hb : ∀ k ∈ x.refs, bx' k = bx k) (h : RepA R bx x u) : RepA R' bx' x u := by
  cases x with
  | v x => exact h
  | sl sz rows => exact RepP.mono hR h
  | agg xs => obtain ⟨us, e, h⟩ := h; exact ⟨us, e, h.mono hR⟩
  | tup vs => obtain ⟨us, e, h⟩ := h; exact ⟨us, e, h.mono hR⟩
  | ref k off => show u = _; rw [hb k (by simp [AV.refs])]; exact h
  | ept row => exact RepE.mono hR h
  | clo f caps =>
    show u = _
    rw [show u = _ from h]
    congr 2
    refine List.map_congr_left fun c hc => ?_
    rw [hb c.1 (List.mem_map_of_mem hc)]
  | fnv f caps => obtain ⟨us, e, h⟩ := h; exact ⟨us, e, h.mono hR⟩

/-- Where an owned slice's header lies: in a slot, or in a box's cell. -/
inductive Loc where
  | s (t : Nat)
  | b (k off : Nat)
deriving DecidableEq

def look {α : Type} : List (Nat × α) → Nat → Option α
  | [], _ => none
  | (k, x) :: l, t => if k = t then some x else look l t
def lookL {α : Type} : List (Loc × α) → Loc → Option α
  | [], _ => none
  | (k, x) :: l, t => if k = t then some x else lookL l t
/-- What else the frame holds: blocks of its own that no operation of the abstract states touches (foot; froz: those that can be read, too, and stay), and what is said of them. -/
structure Ext where
  foot : Nat → Prop
  froz : Nat → Prop
  holds : World → Prop
  stable : ∀ {w w' : World}, (∀ b, foot b ∨ froz b → w'.heap[b]? = w.heap[b]?) → holds w → holds w'
def Ext.nil : Ext := ⟨fun _ => False, fun _ => False, fun _ => True, fun _ _ => trivial⟩
structure St where
  slot : List (Nat × AV)
  box : List (Nat × List PV)
  own : List (Loc × (TypeId × Nat))
  ext : Ext
def St.avAt (σ : St) : Loc → Option AV
  | .s t => look σ.slot t
  | .b k off => ((look σ.box k).bind (·[off]?)).map PV.av
structure Gh where
  bx : Nat → Nat
  rw : Loc → Option Nat
/-- Cells that may still be written. -/
def St.mut (σ : St) (γ : Gh) (p : Addr) : Prop :=
  (∃ k cs, look σ.box k = some cs ∧ p.block = γ.bx k) ∨
  (∃ L e sz rows, lookL σ.own L = some (e, sz) ∧ σ.avAt L = some (.sl sz rows) ∧ γ.rw L = some p.block ∧ rows.length * sz ≤ p.off) ∨ σ.ext.foot p.block
open Classical in
/-- What can be read and will stay: of what was there before the frame what R0 gives; of the frame's own blocks all that cannot be written any more. -/
noncomputable def rdr (R0 : Reader) (B : Nat) (σ : St) (γ : Gh) (w : World) : Reader := fun p =>
  if p.block < B then R0 p else if σ.mut γ p then none else w.cell? p
def valAt (a : Act) (w : World) (γ : Gh) : Loc → Option Value
  | .s t => some (a.tmps.getD t undef)
  | .b k off => w.cell? ⟨γ.bx k, off, none⟩
def OwnV (w : World) (B : Nat) (e : TypeId) (sz n : Nat) (v : Value) : Option Nat → Prop
  | none => v = .slice none 0 0 ∧ n = 0
  | some g => ∃ cap cur, v = .slice (some ⟨g, 0, none⟩) n cap ∧ B ≤ g ∧ w.heap[g]? = some (.cells cur e (0, 0)) ∧ n ≤ cap ∧ cap ≤ maxLen ∧ cur.size = cap * sz
/-- The frame's constants: what was there when it began. -/
structure Fr where
  R0 : Reader
  w0 : World
  n : Nat
structure Rel (F : Fr) (σ : St) (γ : Gh) (a : Act) (w : World) : Prop where
  defers : a.defers = []
  size : a.tmps.size = F.n
  below : Below F.w0.heap.size F.w0 w
  r0 : ∀ p v, F.R0 p = some v → F.w0.cell? p = some v
  slots : ∀ t x, look σ.slot t = some x → RepA (rdr F.R0 F.w0.heap.size σ γ w) γ.bx x (a.tmps.getD t undef) ∧ ∀ k ∈ x.refs, (look σ.box k).isSome
  boxes : ∀ k cs, look σ.box k = some cs → ∃ us ty, w.heap[γ.bx k]? = some (.cells us.toArray ty (0, 0)) ∧ F.w0.heap.size ≤ γ.bx k ∧ RepL (rdr F.R0 F.w0.heap.size σ γ w) cs us
  boxinj : ∀ k k', (look σ.box k).isSome → (look σ.box k').isSome → γ.bx k = γ.bx k' → k = k'
  owns : ∀ L e sz, lookL σ.own L = some (e, sz) → ∃ rows v, σ.avAt L = some (.sl sz rows) ∧ valAt a w γ L = some v ∧ OwnV w F.w0.heap.size e sz rows.length v (γ.rw L)
  rowinj : ∀ L L' g, (lookL σ.own L).isSome → (lookL σ.own L').isSome → γ.rw L = some g → γ.rw L' = some g → L = L'
  rowbox : ∀ L k g, (lookL σ.own L).isSome → (look σ.box k).isSome → γ.rw L = some g → g ≠ γ.bx k
  exth : σ.ext.holds w
  extf : ∀ b, σ.ext.foot b ∨ σ.ext.froz b → F.w0.heap.size ≤ b ∧ b < w.heap.size ∧ (∀ k, (look σ.box k).isSome → γ.bx k ≠ b) ∧ (∀ L, (lookL σ.own L).isSome → γ.rw L ≠ some b)
  small : F.n ≤ 1000000
  dyn : ∀ k, (look σ.box k).isSome → 1000000 ≤ k → γ.bx k = k - 1000000

end Av
end Go.Proofs.Ytkdigdnacggknaa
/- Abstract states: how they follow the machine's steps: a slot written, a new box, a store, a row that grows. Generic. -/
namespace Go.Proofs.Ytkdigdnacggknaa
open Go.RowKit
namespace Av

theorem look_cons {α : Type} (k : Nat) (x : α) (l : List (Nat × α)) (t : Nat) : look ((k, x) :: l) t = if k = t then some x else look l t := rfl
theorem lookL_cons {α : Type} (k : Loc) (x : α) (l : List (Loc × α)) (t : Loc) : lookL ((k, x) :: l) t = if k = t then some x else lookL l t := rfl
def delL {α : Type} (l : List (Loc × α)) (L : Loc) : List (Loc × α) := l.filter fun x => !(x.1 == L)
theorem lookL_del {α : Type} (l : List (Loc × α)) (L L' : Loc) : lookL (delL l L) L' = if L' = L then none else lookL l L' := by
  induction l with
  | nil => simp [delL, lookL]
  | cons x l ih =>
    obtain ⟨k, x⟩ := x
    unfold delL at ih ⊢
    by_cases h : k = L
    · subst h
      rw [List.filter_cons_of_neg (by simp), ih, lookL_cons]
      by_cases h' : L' = k
      · subst h'; simp
      · rw [if_neg h', if_neg h', if_neg (fun e => h' e.symm)]
    · rw [List.filter_cons_of_pos (by simpa using h), lookL_cons, lookL_cons, ih]
      by_cases h' : L' = L
      · subst h'; rw [if_neg h]; simp
      · simp [h']
def St.put (σ : St) (d : Nat) (x : AV) : St := { slot := (d, x) :: σ.slot, box := σ.box, own := delL σ.own (.s d), ext := σ.ext }

theorem rdr_le {R0 : Reader} {B : Nat} {σ σ' : St} {γ γ' : Gh} {w w' : World}
    (h : ∀ p v, B ≤ p.block → ¬ σ.mut γ p → w.cell? p = some v → ¬ σ'.mut γ' p ∧ w'.cell? p = some v) :
    ∀ p v, rdr R0 B σ γ w p = some v → rdr R0 B σ' γ' w' p = some v := by
  intro p v hp
  unfold rdr at hp ⊢
  by_cases hB : p.block < B
  · rw [if_pos hB] at hp ⊢; exact hp
  · rw [if_neg hB] at hp ⊢
    by_cases hm : σ.mut γ p
    · rw [if_pos hm] at hp; cases hp
    · rw [if_neg hm] at hp
      obtain ⟨h1, h2⟩ := h p v (by omega) hm hp
      rw [if_neg h1]; exact h2
theorem avAt_put {σ : St} {d : Nat} {x : AV} {L : Loc} (h : L ≠ .s d) : (σ.put d x).avAt L = σ.avAt L := by
  cases L with
  | s t =>
    have : d ≠ t := fun e => h (by rw [e])
    simp [St.avAt, St.put, look_cons, this]
  | b k off => rfl
theorem own_put {σ : St} {d : Nat} {x : AV} {L : Loc} {e : TypeId × Nat} (h : lookL (σ.put d x).own L = some e) : L ≠ .s d ∧ lookL σ.own L = some e := by
  unfold St.put at h
  dsimp only at h
  rw [lookL_del] at h
  by_cases hL : L = .s d
  · rw [if_pos hL] at h; cases h
  · rw [if_neg hL] at h; exact ⟨hL, h⟩
theorem mut_put {σ : St} {γ : Gh} {d : Nat} {x : AV} {p : Addr} (h : (σ.put d x).mut γ p) : σ.mut γ p := by
  rcases h with h | ⟨L, e, sz, rows, h1, h2, h3⟩ | h
  · exact .inl h
  · obtain ⟨hL, h1⟩ := own_put h1
    exact .inr (.inl ⟨L, e, sz, rows, h1, (avAt_put hL).symm.trans h2, h3⟩)
  · exact .inr (.inr h)
theorem put_le {F : Fr} {σ : St} {γ : Gh} {w : World} {d : Nat} {x : AV} : ∀ p v, rdr F.R0 F.w0.heap.size σ γ w p = some v → rdr F.R0 F.w0.heap.size (σ.put d x) γ w p = some v :=
  rdr_le fun _ _ _ hm hc => ⟨fun h => hm (mut_put h), hc⟩
theorem getD_put {a : Act} {d t : Nat} {u : Value} (hd : d < a.tmps.size) : (a.put (some d) u).tmps.getD t undef = if d = t then u else a.tmps.getD t undef := by
  unfold Act.put
  dsimp only
  by_cases h : d = t
  · subst h
    rw [if_pos rfl]
    simp [Array.getD, hd]
  · rw [if_neg h]
    simp [Array.getD_eq_getD_getElem?, Array.getElem?_setIfInBounds, h]
theorem size_put {a : Act} {d : Option Nat} {u : Value} : (a.put d u).tmps.size = a.tmps.size := by
  cases d <;> simp [Act.put]
theorem defers_put {a : Act} {d : Option Nat} {u : Value} : (a.put d u).defers = a.defers := by
  cases d <;> rfl

/-- A slot is written. -/
theorem Rel.put {F : Fr} {σ : St} {γ : Gh} {a : Act} {w : World} (h : Rel F σ γ a w) {d : Nat} (hd : d < F.n) {x : AV} {u : Value} (hx : RepA (rdr F.R0 F.w0.heap.size σ γ w) γ.bx x u) (hr : ∀ k ∈ x.refs, (look σ.box k).isSome) :
    Rel F (σ.put d x) γ (a.put (some d) u) w := by
  have hd' : d < a.tmps.size := by rw [h.size]; exact hd
  have hval : ∀ L, L ≠ .s d → valAt (a.put (some d) u) w γ L = valAt a w γ L := fun L hL => by
    cases L with
    | s t =>
      have : d ≠ t := fun e => hL (by rw [e])
      simp only [valAt, getD_put hd', if_neg this]
    | b k off => rfl
  refine ⟨by rw [defers_put]; exact h.defers, by rw [size_put]; exact h.size, h.below, h.r0, fun t y hy => ?_, fun k cs hk => ?_, h.boxinj, fun L e sz hL => ?_, fun L L' g hL hL' => ?_, fun L k g hL hk => ?_, h.exth, fun b hb => ?_, h.small, h.dyn⟩
  · simp only [St.put, look_cons] at hy
    rw [getD_put hd']
    by_cases hdt : d = t
    · rw [if_pos hdt] at hy ⊢
      cases hy
      exact ⟨hx.mono put_le (fun _ _ => rfl), hr⟩
    · rw [if_neg hdt] at hy ⊢
      obtain ⟨h1, h2⟩ := h.slots t y hy
      exact ⟨h1.mono put_le (fun _ _ => rfl), h2⟩
  · obtain ⟨us, ty, h1, h2, h3⟩ := h.boxes k cs hk
    exact ⟨us, ty, h1, h2, h3.mono put_le⟩
  · obtain ⟨hne, hL⟩ := own_put hL
    obtain ⟨rows, v, h1, h2, h3⟩ := h.owns L e sz hL
    exact ⟨rows, v, (avAt_put hne).trans h1, (hval L hne).trans h2, h3⟩
  · obtain ⟨e, he⟩ := Option.isSome_iff_exists.1 hL
    obtain ⟨e', he'⟩ := Option.isSome_iff_exists.1 hL'
    exact h.rowinj L L' g (by rw [(own_put he).2]; rfl) (by rw [(own_put he').2]; rfl)
  · obtain ⟨e, he⟩ := Option.isSome_iff_exists.1 hL
    exact h.rowbox L k g (by rw [(own_put he).2]; rfl) hk
  · obtain ⟨h1, h2, h3, h4⟩ := h.extf b hb
    refine ⟨h1, h2, h3, fun L hL => ?_⟩
    obtain ⟨e, he⟩ := Option.isSome_iff_exists.1 hL
    exact h4 L (by rw [(own_put he).2]; rfl)
theorem Rel.cell_lt {w : World} {p : Addr} {v : Value} (h : w.cell? p = some v) : p.block < w.heap.size := World.block_lt_of_cell? w p h
theorem Rel.base {F : Fr} {σ : St} {γ : Gh} {a : Act} {w : World} (h : Rel F σ γ a w) : F.w0.heap.size ≤ w.heap.size := h.below.size
theorem Rel.box_lt {F : Fr} {σ : St} {γ : Gh} {a : Act} {w : World} (h : Rel F σ γ a w) {k : Nat} (hk : (look σ.box k).isSome) : γ.bx k < w.heap.size ∧ F.w0.heap.size ≤ γ.bx k := by
  obtain ⟨cs, hk⟩ := Option.isSome_iff_exists.1 hk
  obtain ⟨us, ty, h1, h2, _⟩ := h.boxes k cs hk
  exact ⟨(Array.getElem?_eq_some_iff.1 h1).1, h2⟩
theorem OwnV.lt {w : World} {B : Nat} {e : TypeId} {sz n : Nat} {v : Value} {g : Nat} (h : OwnV w B e sz n v (some g)) : B ≤ g ∧ g < w.heap.size := by
  obtain ⟨cap, cur, _, h1, h2, _⟩ := h
  exact ⟨h1, (Array.getElem?_eq_some_iff.1 h2).1⟩
theorem OwnV.keep {w w' : World} {B : Nat} {e : TypeId} {sz n : Nat} {v : Value} {q : Option Nat} (h : OwnV w B e sz n v q) (hb : ∀ g, q = some g → w'.heap[g]? = w.heap[g]?) : OwnV w' B e sz n v q := by
  cases q with
  | none => exact h
  | some g =>
    obtain ⟨cap, cur, h0, h1, h2, h3⟩ := h
    exact ⟨cap, cur, h0, h1, (hb g rfl).trans h2, h3⟩
theorem OwnV.low {w : World} {B B' : Nat} {e : TypeId} {sz n : Nat} {v : Value} {q : Option Nat} (h : OwnV w B e sz n v q) (hB : B' ≤ B) : OwnV w B' e sz n v q := by
  cases q with
  | none => exact h
  | some g =>
    obtain ⟨cap, cur, h0, h1, h2⟩ := h
    exact ⟨cap, cur, h0, Nat.le_trans hB h1, h2⟩
theorem Rel.row_lt {F : Fr} {σ : St} {γ : Gh} {a : Act} {w : World} (h : Rel F σ γ a w) {L : Loc} (hL : (lookL σ.own L).isSome) {g : Nat} (hg : γ.rw L = some g) : g < w.heap.size ∧ F.w0.heap.size ≤ g := by
  obtain ⟨e, he⟩ := Option.isSome_iff_exists.1 hL
  obtain ⟨rows, v, _, _, h3⟩ := h.owns L e.1 e.2 he
  rw [hg] at h3
  exact ⟨h3.lt.2, h3.lt.1⟩
/-- A step that leaves all that is there: a call, a draw. -/
theorem grow_le {F : Fr} {σ : St} {γ : Gh} {w w1 : World} (hb : Below w.heap.size w w1) : ∀ p v, rdr F.R0 F.w0.heap.size σ γ w p = some v → rdr F.R0 F.w0.heap.size σ γ w1 p = some v :=
  rdr_le fun _ _ _ hm hc => ⟨hm, (hb.cell (Rel.cell_lt hc)).trans hc⟩
theorem Rel.grow {F : Fr} {σ : St} {γ : Gh} {a : Act} {w w1 : World} (h : Rel F σ γ a w) (hb : Below w.heap.size w w1) : Rel F σ γ a w1 := by
  refine ⟨h.defers, h.size, h.below.trans (hb.mono h.base), h.r0, fun t x hx => ?_, fun k cs hk => ?_, h.boxinj, fun L e sz hL => ?_, h.rowinj, h.rowbox, σ.ext.stable (fun b hbf => hb.block b (h.extf b hbf).2.1) h.exth, fun b hbf => by
    obtain ⟨h1, h2, h3, h4⟩ := h.extf b hbf
    exact ⟨h1, Nat.lt_of_lt_of_le h2 hb.size, h3, h4⟩, h.small, h.dyn⟩
  · obtain ⟨h1, h2⟩ := h.slots t x hx
    exact ⟨h1.mono (grow_le hb) (fun _ _ => rfl), h2⟩
  · obtain ⟨us, ty, h1, h2, h3⟩ := h.boxes k cs hk
    exact ⟨us, ty, (hb.block _ (Array.getElem?_eq_some_iff.1 h1).1).trans h1, h2, h3.mono (grow_le hb)⟩
  · obtain ⟨rows, v, h1, h2, h3⟩ := h.owns L e sz hL
    refine ⟨rows, v, h1, ?_, h3.keep fun g hg => hb.block g ?_⟩
    · cases L with
      | s t => exact h2
      | b k off => exact (hb.cell (p := ⟨γ.bx k, off, none⟩) (Rel.cell_lt h2)).trans h2
    · rw [hg] at h3; exact h3.lt.2
/-- A new box. -/
def St.addBox (σ : St) (k : Nat) (cs : List PV) : St := { σ with box := (k, cs) :: σ.box }
def Gh.addBox (γ : Gh) (k b : Nat) : Gh := { γ with bx := fun j => if j = k then b else γ.bx j }
theorem Rel.addBox {F : Fr} {σ : St} {γ : Gh} {a : Act} {w : World} (h : Rel F σ γ a w) {k : Nat} (hkn : k < 1000000) (hk : look σ.box k = none) {cs : List PV} {us : List Value} (hl : RepL (rdr F.R0 F.w0.heap.size σ γ w) cs us) (ty : TypeId) :
    Rel F (σ.addBox k cs) (γ.addBox k w.heap.size) a (w.alloc (.cells us.toArray ty)) := by
  have hold : ∀ j, j ≠ k → (γ.addBox k w.heap.size).bx j = γ.bx j := fun j hj => by simp [Gh.addBox, hj]
  have hnew : (γ.addBox k w.heap.size).bx k = w.heap.size := by simp [Gh.addBox]
  have hkne : ∀ j, (look σ.box j).isSome → j ≠ k := fun j hj e => by subst e; rw [hk] at hj; cases hj
  have hlb : ∀ j, look (σ.addBox k cs).box j = if k = j then some cs else look σ.box j := fun j => look_cons _ _ _ _
  have hb : Below w.heap.size w (w.alloc (.cells us.toArray ty)) := (Below.refl _ _).alloc (Nat.le_refl _) _
  have hownk : ∀ off, lookL σ.own (.b k off) = none := fun off => by
    cases hq : lookL σ.own (.b k off) with
    | none => rfl
    | some e =>
      obtain ⟨rows, v, h1, _⟩ := h.owns _ e.1 e.2 hq
      simp [St.avAt, hk] at h1
  have hav : ∀ L, (lookL σ.own L).isSome → (σ.addBox k cs).avAt L = σ.avAt L := fun L hL => by
    cases L with
    | s t => rfl
    | b j off =>
      have : k ≠ j := fun e => by subst e; rw [hownk] at hL; cases hL
      simp [St.avAt, hlb, this]
  have hle : ∀ p v, rdr F.R0 F.w0.heap.size σ γ w p = some v → rdr F.R0 F.w0.heap.size (σ.addBox k cs) (γ.addBox k w.heap.size) (w.alloc (.cells us.toArray ty)) p = some v := by
    refine rdr_le fun p v hB hm hc => ⟨fun hm' => ?_, (hb.cell (Rel.cell_lt hc)).trans hc⟩
    have hplt := Rel.cell_lt hc
    rcases hm' with ⟨j, cs', hj, hp⟩ | ⟨L, e, sz, rows, h1, h2, h3, h4⟩ | hx
    · rw [hlb] at hj
      by_cases hkj : k = j
      · subst hkj; rw [hnew] at hp; omega
      · rw [if_neg hkj] at hj
        exact hm (.inl ⟨j, cs', hj, by rw [hp, hold j (fun e => hkj e.symm)]⟩)
    · exact hm (.inr (.inl ⟨L, e, sz, rows, h1, by rw [← hav L (by rw [show lookL σ.own L = _ from h1]; rfl)]; exact h2, h3, h4⟩))
    · exact hm (.inr (.inr hx))
  refine ⟨h.defers, h.size, h.below.trans (hb.mono h.base), h.r0, fun t x hx => ?_, fun j cs' hj => ?_, fun j j' hj hj' => ?_, fun L e sz hL => ?_, h.rowinj, fun L j g hL hj hg => ?_, σ.ext.stable (fun b hbf => hb.block b (h.extf b hbf).2.1) h.exth, fun b hbf => ?ext, h.small, fun j hj hd => by
    rw [hlb] at hj
    have hkj : k ≠ j := by omega
    rw [if_neg hkj] at hj
    rw [hold j (fun e => hkj e.symm)]
    exact h.dyn j hj hd⟩
  case ext =>
    obtain ⟨h1, h2, h3, h4⟩ := h.extf b hbf
    refine ⟨h1, Nat.lt_of_lt_of_le h2 hb.size, fun j hj => ?_, h4⟩
    rw [hlb] at hj
    by_cases hkj : k = j
    · subst hkj; rw [hnew]; omega
    · rw [if_neg hkj] at hj
      rw [hold j (fun e => hkj e.symm)]
      exact h3 j hj
  · obtain ⟨h1, h2⟩ := h.slots t x hx
    refine ⟨h1.mono hle (fun j hj => hold j (hkne j (h2 j hj))), fun j hj => ?_⟩
    rw [hlb, if_neg (fun e => hkne j (h2 j hj) e.symm)]
    exact h2 j hj
  · rw [hlb] at hj
    by_cases hkj : k = j
    · subst hkj
      rw [if_pos rfl] at hj
      cases hj
      exact ⟨us, ty, by rw [hnew]; exact heap_alloc_new w _, by rw [hnew]; exact h.base, hl.mono hle⟩
    · rw [if_neg hkj] at hj
      obtain ⟨us', ty', h1, h2, h3⟩ := h.boxes j cs' hj
      rw [hold j (fun e => hkj e.symm)]
      exact ⟨us', ty', (hb.block _ (Array.getElem?_eq_some_iff.1 h1).1).trans h1, h2, h3.mono hle⟩
  · rw [hlb] at hj hj'
    by_cases h1 : k = j <;> by_cases h2 : k = j'
    · intro _; rw [← h1, ← h2]
    · subst h1
      rw [if_neg h2] at hj'
      rw [hnew, hold j' (fun e => h2 e.symm)]
      have := (h.box_lt hj').1
      intro e; omega
    · subst h2
      rw [if_neg h1] at hj
      rw [hnew, hold j (fun e => h1 e.symm)]
      have := (h.box_lt hj).1
      intro e; omega
    · rw [if_neg h1] at hj
      rw [if_neg h2] at hj'
      rw [hold j (fun e => h1 e.symm), hold j' (fun e => h2 e.symm)]
      exact h.boxinj j j' hj hj'
  · obtain ⟨rows, v, h1, h2, h3⟩ := h.owns L e sz hL
    have hL' : (lookL σ.own L).isSome := by rw [show lookL σ.own L = _ from hL]; rfl
    refine ⟨rows, v, (hav L hL').trans h1, ?_, h3.keep fun g hg => hb.block g (h.row_lt hL' hg).1⟩
    cases L with
    | s t => exact h2
    | b j off =>
      have : j ≠ k := fun e => by subst e; rw [hownk] at hL'; cases hL'
      show (w.alloc _).cell? ⟨(γ.addBox k w.heap.size).bx j, off, none⟩ = some v
      rw [hold j this]
      exact (hb.cell (p := ⟨γ.bx j, off, none⟩) (Rel.cell_lt h2)).trans h2
  · rw [hlb] at hj
    by_cases hkj : k = j
    · subst hkj
      rw [hnew]
      have := (h.row_lt hL hg).1
      omega
    · rw [if_neg hkj] at hj
      rw [hold j (fun e => hkj e.symm)]
      exact h.rowbox L j g hL hj hg

/-- States that say no more. -/
structure St.Sub (σ σ' : St) : Prop where
  slot : ∀ t x, look σ'.slot t = some x → look σ.slot t = some x
  box : ∀ k cs, look σ'.box k = some cs → look σ.box k = some cs
  own : ∀ L e, lookL σ'.own L = some e → lookL σ.own L = some e ∧ σ'.avAt L = σ.avAt L
  refs : ∀ t x, look σ'.slot t = some x → ∀ k ∈ x.refs, (look σ'.box k).isSome
  ext : σ'.ext = σ.ext
theorem Rel.sub {F : Fr} {σ σ' : St} {γ : Gh} {a : Act} {w : World} (h : Rel F σ γ a w) (hs : σ.Sub σ') : Rel F σ' γ a w := by
  have hle : ∀ p v, rdr F.R0 F.w0.heap.size σ γ w p = some v → rdr F.R0 F.w0.heap.size σ' γ w p = some v := by
    refine rdr_le fun p v hB hm hc => ⟨fun hm' => ?_, hc⟩
    rcases hm' with ⟨j, cs', hj, hp⟩ | ⟨L, e, sz, rows, h1, h2, h3, h4⟩ | hx
    · exact hm (.inl ⟨j, cs', hs.box _ _ hj, hp⟩)
    · obtain ⟨h5, h6⟩ := hs.own _ _ h1
      exact hm (.inr (.inl ⟨L, e, sz, rows, h5, h6.symm.trans h2, h3, h4⟩))
    · rw [hs.ext] at hx; exact hm (.inr (.inr hx))
  have hsome : ∀ L, (lookL σ'.own L).isSome → (lookL σ.own L).isSome := fun L hL => by
    obtain ⟨e, he⟩ := Option.isSome_iff_exists.1 hL
    rw [(hs.own _ _ he).1]; rfl
  have hbox : ∀ k, (look σ'.box k).isSome → (look σ.box k).isSome := fun k hk => by
    obtain ⟨cs, he⟩ := Option.isSome_iff_exists.1 hk
    rw [hs.box _ _ he]; rfl
  refine ⟨h.defers, h.size, h.below, h.r0, fun t x hx => ?_, fun k cs hk => ?_, fun j j' hj hj' => h.boxinj j j' (hbox j hj) (hbox j' hj'), fun L e sz hL => ?_, fun L L' g hL hL' => h.rowinj L L' g (hsome L hL) (hsome L' hL'), fun L k g hL hk => h.rowbox L k g (hsome L hL) (hbox k hk), by rw [hs.ext]; exact h.exth, fun b hb => by
    rw [hs.ext] at hb
    obtain ⟨h1, h2, h3, h4⟩ := h.extf b hb
    exact ⟨h1, h2, fun k hk => h3 k (hbox k hk), fun L hL => h4 L (hsome L hL)⟩, h.small, fun k hk => h.dyn k (hbox k hk)⟩
  · obtain ⟨h1, _⟩ := h.slots t x (hs.slot _ _ hx)
    exact ⟨h1.mono hle (fun _ _ => rfl), hs.refs t x hx⟩
  · obtain ⟨us, ty, h1, h2, h3⟩ := h.boxes k cs (hs.box _ _ hk)
    exact ⟨us, ty, h1, h2, h3.mono hle⟩
  · obtain ⟨h5, h6⟩ := hs.own _ _ hL
    obtain ⟨rows, v, h1, h2, h3⟩ := h.owns L e sz h5
    exact ⟨rows, v, h6.trans h1, h2, h3⟩
/-- The same state, written otherwise. -/
theorem Rel.congr {F : Fr} {σ σ' : St} {γ : Gh} {a : Act} {w : World} (h : Rel F σ γ a w) (h1 : ∀ t, look σ'.slot t = look σ.slot t) (h2 : ∀ k, look σ'.box k = look σ.box k) (h3 : ∀ L, lookL σ'.own L = lookL σ.own L) (h4 : σ'.ext = σ.ext) : Rel F σ' γ a w :=
  h.sub ⟨fun t x hx => (h1 t).symm.trans hx, fun k cs hk => (h2 k).symm.trans hk, fun L e he => ⟨(h3 L).symm.trans he, by cases L <;> simp [St.avAt, h1, h2]⟩, fun t x hx k hk => by
    rw [h2]; exact (h.slots t x ((h1 t).symm.trans hx)).2 k hk, h4⟩

end Av
end Go.Proofs.Ytkdigdnacggknaa
