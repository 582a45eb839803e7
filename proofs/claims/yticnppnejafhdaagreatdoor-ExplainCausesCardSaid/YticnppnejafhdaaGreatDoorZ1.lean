import Derived.WalkKit
import Derived.WalkLawsBesides
import Derived.KernelRfl
import Derived.Outline
import Derived.LoopTactic
import Derived.Deep.QuietTactic
import Derived.BigQuiet
import Derived.Deep.DeepFit
import Derived.Lib.Hide
import Derived.StillTail
import Derived.Deep.RegionHeld3
import Derived.Deep.MidRow
import Derived.Laws.AppendOwn
import Derived.Laws.OwnMore
import Derived.Laws.Entries
import Derived.Laws.Small
import Derived.Laws.Strings
import Derived.Laws.Concat
import Derived.Laws.Build
import Derived.Laws.Slices
import Derived.Laws.Strings2
set_option linter.unusedVariables false
set_option linter.unusedSimpArgs false
/- The plain functions that the record's Go functions compute: no Go in sight. -/
namespace Go.Proofs.YticnppnejafhdaaGreatDoor
namespace Rc

structure Att where
  s : Int
  f : Int
  cs : Int
  co : Int
  cf : Int
  ct : Int
  cl : Int
  o : Int

structure Dlv where
  fl : Int
  fr : Int
  sl : Int

structure Rec where
  slots : Int
  al : List Att
  dl : List Dlv

instance : Inhabited Att := ⟨⟨0, 0, 0, 0, 0, 0, 0, 0⟩⟩
instance : Inhabited Dlv := ⟨⟨0, 0, 0⟩⟩

theorem Att.ext_iff' (a b : Att) : a = b ↔ (a.s = b.s ∧ a.f = b.f ∧ a.cs = b.cs ∧ a.co = b.co ∧ a.cf = b.cf ∧ a.ct = b.ct ∧ a.cl = b.cl ∧ a.o = b.o) := by
  cases a; cases b; simp
theorem Dlv.ext_iff' (a b : Dlv) : a = b ↔ (a.fl = b.fl ∧ a.fr = b.fr ∧ a.sl = b.sl) := by
  cases a; cases b; simp
instance : DecidableEq Att := fun a b => decidable_of_iff _ (Att.ext_iff' a b).symm
instance : DecidableEq Dlv := fun a b => decidable_of_iff _ (Dlv.ext_iff' a b).symm
theorem Rec.ext_iff' (a b : Rec) : a = b ↔ (a.slots = b.slots ∧ a.al = b.al ∧ a.dl = b.dl) := by
  cases a; cases b; simp
instance : DecidableEq Rec := fun a b => decidable_of_iff _ (Rec.ext_iff' a b).symm

/-- from 0 on, and less than another one -/
def belowB (n m : Int) : Bool := decide (0 ≤ n) && decide (n < m)

def attB (a : Att) (slots : Int) : Bool :=
  belowB a.s slots && (belowB a.f 1048576 && (belowB a.cs 512 && (belowB a.co 16 && (belowB a.cf 32 && (belowB a.ct 32 && (!(a.cf == a.ct) && (belowB a.cl 256 && (decide (1 ≤ a.o) && decide (a.o ≤ 4)))))))))

def cmpI (x y : Int) : Int := if x < y then -1 else if y < x then 1 else 0
def orI : List Int → Int
  | [] => 0
  | x :: l => if x = 0 then orI l else x
def cmpA (x y : Att) : Int := orI [cmpI x.s y.s, cmpI x.cs y.cs, cmpI x.co y.co, cmpI x.cf y.cf, cmpI x.ct y.ct, cmpI x.cl y.cl]
def prevBad (p : Option Att) (a : Att) : Bool :=
  match p with
  | some p => decide (0 ≤ cmpA p a)
  | none => false

/-- the walk over attempts: the one before, the senders of the slot 'at_' -/
def attsGo (slots : Int) : Option Att → List Int → Int → List Att → Bool
  | _, _, _, [] => true
  | p, S, at_, a :: l =>
    if (!attB a slots || prevBad p a) = true then false
    else if a.s = at_ then (if a.cf ∈ S then false else attsGo slots (some a) (a.cf :: S) at_ l)
    else attsGo slots (some a) [a.cf] a.s l
def attsB (l : List Att) (slots : Int) : Bool := attsGo slots none [] (-1) l

def dlvB (d : Dlv) (slots : Int) : Bool := belowB d.fl 256 && (belowB d.fr 1048576 && belowB d.sl slots)
def cmpD (x y : Dlv) : Int := orI [cmpI x.sl y.sl, cmpI x.fl y.fl]
def prevBadD (p : Option Dlv) (d : Dlv) : Bool :=
  match p with
  | some p => decide (0 ≤ cmpD p d)
  | none => false
def dlvsGo (slots : Int) : Option Dlv → List Dlv → Bool
  | _, [] => true
  | p, d :: l => if dlvB d slots = false then false else if prevBadD p d = true then false else dlvsGo slots (some d) l
def dlvsB (l : List Dlv) (slots : Int) : Bool := dlvsGo slots none l

/-- what Check accepts -/
def good (r : Rec) : Bool :=
  decide (0 ≤ r.slots) && (decide (r.slots ≤ 4096) && (decide (r.al.length ≤ 65536) && (decide (r.dl.length ≤ 65536) && (attsB r.al r.slots && dlvsB r.dl r.slots))))
def checkE (r : Rec) : Int := if good r then 0 else 1

/-- the reference's check -/
def inB (n lo hi : Int) : Bool := decide (lo ≤ n) && decide (n ≤ hi)
end Rc
end Go.Proofs.YticnppnejafhdaaGreatDoor
/- Words for memory: slices that read as lists of rows of cells; a family of later worlds for regions that draw their order. Generic: no program's numbers. -/
namespace Go.Proofs.YticnppnejafhdaaGreatDoor
open Go.RowKit

/-- The slice with address A holds the rows xs, sz cells a row, in blocks below B. -/
def Lies (w : World) (B sz : Nat) (A : Option Addr) (xs : List (List Value)) : Prop :=
  xs ≠ [] → ∃ b off, A = some ⟨b, off, none⟩ ∧ b < B ∧ ∀ k row, xs[k]? = some row → ∀ j u, row[j]? = some u → w.cell? ⟨b, off + k * sz + j, none⟩ = some u

theorem Lies.nil (w : World) (B sz : Nat) (A : Option Addr) : Lies w B sz A [] := fun h => absurd rfl h
theorem Lies.keep {w w' : World} {B sz : Nat} {A : Option Addr} {xs : List (List Value)} (h : Lies w B sz A xs) (hk : ∀ p : Addr, p.block < B → w'.cell? p = w.cell? p) : Lies w' B sz A xs := by
  intro hne
  obtain ⟨b, off, e, hb, hc⟩ := h hne
  exact ⟨b, off, e, hb, fun k row hr j u hu => (hk _ hb).trans (hc k row hr j u hu)⟩
theorem Lies.below {w w' : World} {B sz : Nat} {A : Option Addr} {xs : List (List Value)} (h : Lies w B sz A xs) (hb : Below B w w') : Lies w' B sz A xs :=
  h.keep fun _ hp => hb.cell hp
theorem Lies.more {w : World} {B B' sz : Nat} {A : Option Addr} {xs : List (List Value)} (h : Lies w B sz A xs) (hB : B ≤ B') : Lies w B' sz A xs := by
  intro hne
  obtain ⟨b, off, e, hb, hc⟩ := h hne
  exact ⟨b, off, e, Nat.lt_of_lt_of_le hb hB, hc⟩

/-- The worlds that are w below B. -/
structure ExtW (B : Nat) (w : World) where
  val : World
  below : Below B w val

instance (B : Nat) (w : World) : Nonempty (ExtW B w) := ⟨⟨w, Below.refl _ _⟩⟩
theorem ExtW.cell {B : Nat} {w : World} (x : ExtW B w) (p : Addr) (h : p.block < B) : x.val.cell? p = w.cell? p := x.below.cell h

/-- A region that draws its order, whose operations read below B alone and whose callees leave what lies below B: one walk of the text's order. -/
theorem wp_region_ext {P : Program} {id : Nat} {Q : Exit → Act → World → Prop} {a : Act} {w : World} {l : List Oper} (B : Nat) (hm : P.follows .mixedOrders = true) (hB : Region.lexB .any l.toArray = true)
    (h : wpQuiet P l.toArray (fun w' => ∃ x : ExtW B w, w' = x.val) (fun a' => ∀ w', (∃ x : ExtW B w, w' = x.val) → Q .normal a' w') l a) : (Code.region id l.toArray true).wp P Q a w :=
  wp_region_quiet (C := fun w' => ∃ x : ExtW B w, w' = x.val) hm hB ⟨⟨w.drew, (Below.refl _ _).drew⟩, rfl⟩ (by simpa using h)

/-- A callee's contract, met at such a world. -/
theorem Calls.ext_of {P : Program} {f : FuncId} {args : Array Value} {w : World} {B : Nat} {x : ExtW B w} {v : Value}
    (h : Calls P f args x.val fun e w' => e = .returned v ∧ Below x.val.heap.size x.val w') (hB : B ≤ w.heap.size) : Calls P f args x.val fun e w'' => e = .returned v ∧ ∃ y : ExtW B w, w'' = y.val :=
  h.mono fun _ w' ⟨he, hm⟩ => ⟨he, ⟨w', x.below.trans (hm.mono (Nat.le_trans hB x.below.size))⟩, rfl⟩

def Rc.Att.row (a : Rc.Att) : List Value := [.int .i64 a.s, .int .i64 a.f, .int .i64 a.cs, .int .i64 a.co, .int .i64 a.cf, .int .i64 a.ct, .int .i64 a.cl, .int .i64 a.o]
def Rc.Dlv.row (d : Rc.Dlv) : List Value := [.int .i64 d.fl, .int .i64 d.fr, .int .i64 d.sl]

def LiesA (w : World) (B : Nat) (A : Option Addr) (l : List Rc.Att) : Prop := Lies w B 8 A (l.map Rc.Att.row)
def LiesD (w : World) (B : Nat) (A : Option Addr) (l : List Rc.Dlv) : Prop := Lies w B 3 A (l.map Rc.Dlv.row)

theorem LiesA.below {w w' : World} {B : Nat} {A : Option Addr} {l : List Rc.Att} (h : LiesA w B A l) (hb : Below B w w') : LiesA w' B A l := Lies.below h hb
theorem LiesD.below {w w' : World} {B : Nat} {A : Option Addr} {l : List Rc.Dlv} (h : LiesD w B A l) (hb : Below B w w') : LiesD w' B A l := Lies.below h hb
theorem LiesA.more {w : World} {B B' : Nat} {A : Option Addr} {l : List Rc.Att} (h : LiesA w B A l) (hB : B ≤ B') : LiesA w B' A l := Lies.more h hB
theorem LiesD.more {w : World} {B B' : Nat} {A : Option Addr} {l : List Rc.Dlv} (h : LiesD w B A l) (hB : B ≤ B') : LiesD w B' A l := Lies.more h hB
theorem LiesA.at_ {w : World} {B : Nat} {A : Option Addr} {l : List Rc.Att} (h : LiesA w B A l) {k : Nat} {a : Rc.Att} (ha : l[k]? = some a) :
    ∃ b off, A = some ⟨b, off, none⟩ ∧ b < B ∧ ∀ k a, l[k]? = some a → w.cell? ⟨b, off + k * 8, none⟩ = some (.int .i64 a.s) ∧ w.cell? ⟨b, off + k * 8 + 1, none⟩ = some (.int .i64 a.f) ∧ w.cell? ⟨b, off + k * 8 + 2, none⟩ = some (.int .i64 a.cs) ∧
      w.cell? ⟨b, off + k * 8 + 3, none⟩ = some (.int .i64 a.co) ∧ w.cell? ⟨b, off + k * 8 + 4, none⟩ = some (.int .i64 a.cf) ∧ w.cell? ⟨b, off + k * 8 + 5, none⟩ = some (.int .i64 a.ct) ∧
      w.cell? ⟨b, off + k * 8 + 6, none⟩ = some (.int .i64 a.cl) ∧ w.cell? ⟨b, off + k * 8 + 7, none⟩ = some (.int .i64 a.o) := by
  have hne : l.map Rc.Att.row ≠ [] := by
    intro h0
    have : l = [] := by simpa using h0
    subst this
    simp at ha
  obtain ⟨b, off, e, hb, hc⟩ := h hne
  refine ⟨b, off, e, hb, fun k a ha => ?_⟩
  have hr : (l.map Rc.Att.row)[k]? = some a.row := by simp [ha]
  exact ⟨hc k _ hr 0 _ rfl, hc k _ hr 1 _ rfl, hc k _ hr 2 _ rfl, hc k _ hr 3 _ rfl, hc k _ hr 4 _ rfl, hc k _ hr 5 _ rfl, hc k _ hr 6 _ rfl, hc k _ hr 7 _ rfl⟩

theorem LiesD.at_ {w : World} {B : Nat} {A : Option Addr} {l : List Rc.Dlv} (h : LiesD w B A l) {k : Nat} {a : Rc.Dlv} (ha : l[k]? = some a) :
    ∃ b off, A = some ⟨b, off, none⟩ ∧ b < B ∧ ∀ k a, l[k]? = some a → w.cell? ⟨b, off + k * 3, none⟩ = some (.int .i64 a.fl) ∧ w.cell? ⟨b, off + k * 3 + 1, none⟩ = some (.int .i64 a.fr) ∧ w.cell? ⟨b, off + k * 3 + 2, none⟩ = some (.int .i64 a.sl) := by
  have hne : l.map Rc.Dlv.row ≠ [] := by
    intro h0
    have : l = [] := by simpa using h0
    subst this
    simp at ha
  obtain ⟨b, off, e, hb, hc⟩ := h hne
  refine ⟨b, off, e, hb, fun k a ha => ?_⟩
  have hr : (l.map Rc.Dlv.row)[k]? = some a.row := by simp [ha]
  exact ⟨hc k _ hr 0 _ rfl, hc k _ hr 1 _ rfl, hc k _ hr 2 _ rfl⟩

theorem drop_of_get {α : Type} {l : List α} {k : Nat} {a : α} (h : l[k]? = some a) : l.drop k = a :: l.drop (k + 1) := by
  have hk : k < l.length := (List.getElem?_eq_some_iff.1 h).1
  rw [List.drop_eq_getElem_cons hk]
  have := (List.getElem?_eq_some_iff.1 h).2
  rw [this]

theorem get_of_lt {α : Type} {l : List α} {k : Nat} (h : k < l.length) : ∃ a, l[k]? = some a := ⟨l[k], List.getElem?_eq_getElem h⟩

theorem ints_get {l : List Int} {k : Nat} {x : Int} (h : l[k]? = some x) : (l.map (Value.int .i64))[k]? = some (.int .i64 x) := by rw [List.getElem?_map, h]; rfl
theorem ret_bool {a b : Bool} (h : a = b) : Ending.returned (.bool a) = .returned (.bool b) := by rw [h]
theorem ret_int {k : IntKind} {a b : Int} (h : a = b) : Ending.returned (.int k a) = .returned (.int k b) := by rw [h]

end Go.Proofs.YticnppnejafhdaaGreatDoor
/- A region that draws its order: first operations that are quiet in a class of worlds (reads, sums, calls whose answer hangs on nothing but the class), then a tail in one forced order that begins only when all of them are done. Generic. After the kit's Still, StillTail and Quiet, with a class of worlds in the place of one world. -/
namespace Go.Proofs.YticnppnejafhdaaGreatDoor
open Go.RowKit

section
variable {P : Program} {ops : Array Oper} {md : Region.Mode} {C : World → Prop}

/-- The head's operations in whatever order, each below n; then L. -/
def anyHead (P : Program) (md : Region.Mode) (ops : Array Oper) (C : World → Prop) (n : Nat) (L : Array Bool → Act → Prop) : Nat → Array Bool → Act → Prop
  | 0, listed, a => L listed a
  | f + 1, listed, a => Region.ready md ops listed ≠ [] ∧ ∀ i ∈ Region.ready md ops listed, i < n ∧ qOp P ops C i (anyHead P md ops C n L f (listed.setIfInBounds i true)) a

theorem anyHead_wp {n g : Nat} {L : Array Bool → Act → Prop} {Q : Exit → Act → World → Prop} (hL : ∀ listed a, L listed a → ∀ w, C w → wpAny P md ops Q g listed a w) :
    ∀ (f : Nat) (listed : Array Bool) (a : Act), anyHead P md ops C n L f listed a → ∀ w, C w → wpAny P md ops Q (f + g) listed a w
  | 0, listed, a, h, w, hw => by rw [Nat.zero_add]; exact hL _ _ h w hw
  | f + 1, listed, a, h, w, hw => by
    rw [show f + 1 + g = (f + g) + 1 by omega]
    exact ⟨fun h0 => absurd h0 h.1, fun i hi => wpOp_of_qOp hw (fun a' w' hw' h' => anyHead_wp hL f _ a' h' w' hw') (h.2 i hi).2⟩

theorem anyHead_first {n i : Nat} {oi : Oper} {v : Value} {L : Array Bool → Act → Prop} (hi : ops[i]? = some oi) (hsel : ∀ (j : Nat) (o : Oper) cs b, ops[j]? = some o → o.op ≠ .select cs b)
    (hs : Region.sinkB md ops n = true) (hc : Region.chainB md ops n = true) (hn : n < ops.size) (hin : i < n)
    (hdone : ∀ listed a, L listed a → ∀ j ∈ Region.ready md ops listed, n ≤ j) :
    ∀ (f : Nat) (listed : Array Bool) (a : Act), HeadInv md ops n listed →
      (∀ j oj, ops[j]? = some oj → j ≠ i → listed.getD j true = false → (∀ e ∈ oj.after, Region.binds md e = true → e.on ≠ i) → oi.apart ops oj = true) →
      i ∈ Region.ready md ops listed → YieldsIn P ops C oi v a →
      anyHead P md ops C n L f (listed.setIfInBounds i true) (a.put oi.dst v) → anyHead P md ops C n L (f + 1) listed a := by
  intro f
  induction f with
  | zero =>
    intro listed a inv _ hr hy H
    have hun := (mem_ready.1 hr).1
    refine ⟨fun h => (by rw [h] at hr; cases hr), fun j hj => ?_⟩
    have hjn : j < n := by
      rcases Nat.lt_or_ge j n with h | h
      · exact h
      · exact absurd hj (tail_waits hs hc hn inv _ i rfl hin hun j h)
    refine ⟨hjn, ?_⟩
    by_cases hji : j = i
    · subst hji; exact hy.qOp hi H
    · have := hdone _ _ H j (ready_mono hj hji)
      omega
  | succ f ih =>
    intro listed a inv hfree hr hy H
    have hun := (mem_ready.1 hr).1
    refine ⟨fun h => (by rw [h] at hr; cases hr), fun j hj => ?_⟩
    have hjn : j < n := by
      rcases Nat.lt_or_ge j n with h | h
      · exact h
      · exact absurd hj (tail_waits hs hc hn inv _ i rfl hin hun j h)
    refine ⟨hjn, ?_⟩
    by_cases hji : j = i
    · subst hji; exact hy.qOp hi H
    · have h1 := (H.2 j (ready_mono hj hji)).2
      obtain ⟨hjun, oj, hoj, hall⟩ := mem_ready.1 hj
      have hnot : ∀ e ∈ oj.after, Region.binds md e = true → e.on ≠ i := fun e he hb heq => by
        have h1 := hall e he hb
        rw [heq, getD_both hun] at h1
        cases h1
      have h2 := qOp_put hoj (hfree j oj hoj hji hjun hnot) (fun cs b => hsel i oi cs b hi) (fun cs b => hsel j oj cs b hoj) hy h1
      have hfree' : ∀ k ok, ops[k]? = some ok → k ≠ i → (listed.setIfInBounds j true).getD k true = false →
          (∀ e ∈ ok.after, Region.binds md e = true → e.on ≠ i) → oi.apart ops ok = true := fun k ok hk hki hun hno => by
        refine hfree k ok hk hki ?_ hno
        by_cases hjk : j = k
        · subst hjk; exact hjun
        · rw [getD_set_ne true hjk] at hun; exact hun
      refine qOp_mono (fun a' h3 => ih (listed.setIfInBounds j true) a' (inv.set hj hjn) hfree' (ready_mono hr (Ne.symm hji)) h3.1 ?_) h2
      rw [Array.setIfInBounds_comm _ _ hji]
      exact h3.2

theorem anyHead_lex {n g : Nat} {Lq : Act → Prop} (hsel : Region.noSelect ops = true) (hs : Region.sinkB md ops n = true) (hc : Region.chainB md ops n = true) (hn : n < ops.size) :
    ∀ (l : List Oper) (k : Nat) (listed : Array Bool) (a : Act), (∀ j, j < l.length → l[j]? = ops[k + j]?) → k + l.length = n → HeadInv md ops n listed →
    Region.lexHead md ops g l.length k listed = true → wpQuiet P ops C Lq l a →
    anyHead P md ops C n (fun listed' a' => Region.seqB md ops g n listed' = true ∧ Lq a') l.length listed a
  | [], k, listed, a, _, hk, _, hB, h => by
    have : k = n := by simpa using hk
    subst this
    exact ⟨by simpa [Region.lexHead] using hB, h⟩
  | o :: l, k, listed, a, hl, hk, inv, hB, h => by
    have h0 : ops[k]? = some o := by simpa using (hl 0 (by simp)).symm
    simp only [List.length_cons, Region.lexHead, Bool.and_eq_true] at hB
    obtain ⟨⟨hr, hf⟩, hB'⟩ := hB
    have hkn : k < n := by simp only [List.length_cons] at hk; omega
    have hr' : k ∈ Region.ready md ops listed := by simpa using hr
    have hst : qOp P ops C k (wpQuiet P ops C Lq l) a := by unfold qOp; simp only [h0]; exact h
    obtain ⟨v, hy, hK⟩ := yieldsIn_of_qOp h0 hst
    exact anyHead_first h0 (Region.noSelect_spec hsel) hs hc hn hkn (fun listed' a' hL => seqB_ready hL.1) l.length listed a inv (Region.free_spec h0 hf) hr' hy
      (anyHead_lex hsel hs hc hn l (k + 1) _ _ (fun j hj => by have := hl (j + 1) (by simp; omega); simpa [Nat.add_assoc, Nat.add_comm 1 j] using this) (by simp only [List.length_cons] at hk; omega) (inv.set hr' hkn) hB' hK)

theorem wp_region_quiet_tail {id : Nat} {Q : Exit → Act → World → Prop} {a : Act} {w : World} {l : List Oper} (n : Nat) (hm : P.follows .mixedOrders = true) (hB : Region.lexTailB .any l.toArray n = true) (hC : C { w with drawn := w.drawn + 1 })
    (h : wpQuiet P l.toArray C (fun a' => ∀ w', C w' → wpList P l.toArray Q (l.drop n) a' w') (l.take n) a) : (Code.region id l.toArray true).wp P Q a w := by
  simp only [Region.lexTailB, Bool.and_eq_true, decide_eq_true_eq] at hB
  obtain ⟨⟨⟨⟨hsel, hn⟩, hs⟩, hc⟩, hlex⟩ := hB
  have hn' : n < l.length := by simpa using hn
  have htl : (l.take n).length = n := by simp; omega
  have hdl : (l.drop n).length = l.toArray.size - n := by simp
  have inv0 : HeadInv .any l.toArray n (Array.replicate l.toArray.size false) :=
    ⟨by simp, fun j oj _ hl => (by rw [getD_replicate_false] at hl; cases hl), fun t _ ht => getD_in (by simpa using ht) (getD_replicate_false _ _)⟩
  have H := anyHead_lex (md := .any) (C := C) (g := l.toArray.size - n) hsel hs hc hn (l.take n) 0 _ a (fun j hj => by
    have hj' : j < n := by rw [htl] at hj; exact hj
    simp [hj']) (by simpa using htl) inv0 (by rw [htl]; exact hlex) h
  refine wp_region_any hm ?_
  have := anyHead_wp (Q := Q) (g := l.toArray.size - n) (fun listed a' hL w' hw' => by
    have := wpAny_of_seq (md := .any) (Q' := Q) (l.drop n) n listed a' w' (fun j => by simp [List.getElem?_drop]) (by rw [hdl]; exact hL.1) (hL.2 w' hw')
    rwa [hdl] at this) _ _ _ H _ hC
  rw [htl, show n + (l.toArray.size - n) = l.toArray.size by omega] at this
  exact this

/-- At the class 'as w below B', the operations written out. -/
theorem wp_region_ext_tail {id : Nat} {Q : Exit → Act → World → Prop} {a : Act} {w : World} {l : List Oper} (B n : Nat) (hm : P.follows .mixedOrders = true) (hB : Region.lexTailB .any l.toArray n = true)
    (h : wpQuiet P l.toArray (fun w' => ∃ x : ExtW B w, w' = x.val) (fun a' => ∀ w', (∃ x : ExtW B w, w' = x.val) → wpList P l.toArray Q (l.drop n) a' w') (l.take n) a) : (Code.region id l.toArray true).wp P Q a w :=
  wp_region_quiet_tail n hm hB ⟨⟨w.drew, (Below.refl _ _).drew⟩, rfl⟩ h

/-- In block b of w the cells cs lie. -/
def Row (w : World) (b : Nat) (cs : List Value) : Prop := ∀ i : Nat, w.cell? ⟨b, i, none⟩ = cs[i]?
theorem Row.below {w w' : World} {b B : Nat} {cs : List Value} (h : Row w b cs) (hb : Below B w w') (hB : b < B) : Row w' b cs := fun i => (hb.cell (p := ⟨b, i, none⟩) hB).trans (h i)
theorem Row.new (w : World) (cs : List Value) (t : TypeId) : Row (w.alloc (.cells cs.toArray t)) w.heap.size cs := fun i => by
  have h : (w.alloc (.cells cs.toArray t)).heap[w.heap.size]? = some (.cells cs.toArray t) := heap_alloc_new w _
  unfold World.cell?
  rw [show (⟨w.heap.size, i, none⟩ : Addr).block = w.heap.size from rfl, h]
  simp
theorem Row.new' {w : World} {b : Nat} (cs : List Value) (t : TypeId) (h : b = w.heap.size) : Row (w.alloc (.cells cs.toArray t)) b cs := by rw [h]; exact Row.new w cs t
theorem Row.alloc {w : World} {b : Nat} {cs : List Value} (h : Row w b cs) (hb : b < w.heap.size) (o : Obj) : Row (w.alloc o) b cs := fun i => (World.cell?_alloc_lt w o ⟨b, i, none⟩ hb).trans (h i)
theorem Row.drew {w : World} {b : Nat} {cs : List Value} (h : Row w b cs) : Row w.drew b cs := h
theorem Row.far {w : World} {b : Nat} {cs : List Value} (h : Row w b cs) {p : Addr} (hp : p.block ≠ b) (u : Value) : Row (w.setCell p u) b cs := fun i => (World.cell?_setCell_other w p ⟨b, i, none⟩ u (fun e => hp (by rw [e]))).trans (h i)
theorem Row.ints {w : World} {b : Nat} {l : List Int} (h : Row w b (l.map (Value.int .i64))) : ∀ k x, l[k]? = some x → w.cell? ⟨b, 0 + k, none⟩ = some (.int .i64 x) := fun k x hx => by
  rw [Nat.zero_add]; exact (h k).trans (ints_get hx)
theorem Row.ext {w : World} {b B : Nat} {cs : List Value} (h : Row w b cs) (hB : b < B) : ∀ (x : ExtW B w) (i : Nat), x.val.cell? ⟨b, i, none⟩ = cs[i]? := fun x i => (x.cell _ hB).trans (h i)

/-- A callee that leaves the world as it was. -/
theorem Calls.ext_same {f : FuncId} {args : Array Value} {w : World} {B : Nat} {x : ExtW B w} {v : Value}
    (h : Calls P f args x.val fun e w' => e = .returned v ∧ x.val = w') : Calls P f args x.val fun e w'' => e = .returned v ∧ ∃ y : ExtW B w, w'' = y.val :=
  h.mono fun _ _ ⟨he, hm⟩ => ⟨he, x, hm.symm⟩
end
end Go.Proofs.YticnppnejafhdaaGreatDoor
/- A region that draws its order, walked by steps: a plain read or sum that is quiet in every world that is as this one below B may be taken first; an operation that stands alone is carried out; where several stand, each of them. Every step leaves what lies below B. Generic. -/
namespace Go.Proofs.YticnppnejafhdaaGreatDoor
open Go.RowKit

section
variable {P : Program} {ops : Array Oper} {Q : Exit → Act → World → Prop}

theorem nth0 {o : Oper} {l : List Oper} : (o :: l).toArray[0]? = some o := by simp
theorem nthS {o x : Oper} {l : List Oper} {i : Nat} (h : l.toArray[i]? = some o) : (x :: l).toArray[i + 1]? = some o := by simpa using h

/-- Operations that yield a value, or halt, but enter no function. -/
def plainOp : Op → Bool
  | .move _ | .assign _ | .pick _ _ _ | .load _ _ | .binOp _ _ _ _ _ | .unOp _ _ _ | .convert _ _ _ | .slice _ _ _ _ _ | .fieldAddr _ _ _ | .field _ _ _ | .indexAddr _ _ _ | .index _ _ _ | .extract _ _ | .build _ _ | .makeInterface _ _ | .makeFunc _ _ _ => true
  | .call { callee := .builtin .len, .. } => true
  | _ => false

theorem run_value_form (s : Sem Value) (w : World) : (∃ v w', (do pure (Next.value (← s)) : Sem Next).run P w = .ok (.value v) w') ∨ (∃ h w', (do pure (Next.value (← s)) : Sem Next).run P w = .halt h w') := by
  rw [Sem.run_bind]
  cases s.run P w with
  | ok v w' => exact .inl ⟨v, w', rfl⟩
  | halt h w' => exact .inr ⟨h, w', rfl⟩

theorem run_plain {o : Oper} (ho : plainOp o.op = true) (ρ : Operand → Value) (w : World) : (∃ v w', (execOp ρ o).run P w = .ok (.value v) w') ∨ (∃ h w', (execOp ρ o).run P w = .halt h w') := by
  unfold execOp
  cases h : o.op
  case move x => exact .inl ⟨_, _, rfl⟩
  case assign x => exact .inl ⟨_, _, rfl⟩
  case pick c a b =>
    simp only [Sem.run_bind]
    cases (asBool (ρ c)).run P w with
    | ok v w' => exact .inl ⟨_, w', rfl⟩
    | halt h w' => exact .inr ⟨h, w', rfl⟩
  case call c =>
    rw [h] at ho
    obtain ⟨callee, args, argTypes⟩ := c
    cases callee with
    | builtin b =>
      cases b <;> first
        | (simp [plainOp] at ho; done)
        | (simp only [resolve, invoke, builtin, Sem.run_bind, Sem.run_pure, Result.andThen_ok]
           generalize Sem.run P (Builtin.len_ _ _ _) w = r
           cases r with
           | ok v w' => exact .inl ⟨v, w', rfl⟩
           | halt x w' => exact .inr ⟨x, w', rfl⟩)
    | value f => simp [plainOp] at ho
    | invoke r m => simp [plainOp] at ho
  all_goals first
    | exact run_value_form _ w
    | (rw [h] at ho; simp [plainOp] at ho; done)

/-- In every world as w below B the operation yields v and leaves the world. -/
def YieldsB (P : Program) (ops : Array Oper) (B : Nat) (o : Oper) (v : Value) (a : Act) (w : World) : Prop :=
  (Region.wanted o (yielded ops a.tmps) = true ∧ ∀ w', Below B w w' → (execOp a.eval o).run P w' = .ok (.value v) w') ∨ (Region.wanted o (yielded ops a.tmps) = false ∧ v = undef)

theorem YieldsB.wpOp {B i : Nat} {o : Oper} {v : Value} {a : Act} {w : World} (hi : ops[i]? = some o) (hy : YieldsB P ops B o v a w) {K : Act → World → Prop} (h : K (a.put o.dst v) w) : wpOp P ops Q i K a w := by
  unfold Go.wpOp
  simp only [hi]
  rcases hy with ⟨hw, hv⟩ | ⟨hw, rfl⟩
  · simp only [hw, if_true, Oper.wp, hv w (Below.refl _ _), Oper.upon]; exact .inl h
  · simp only [hw, Bool.false_eq_true, if_false]; exact h

theorem YieldsB.of_same {B : Nat} {o : Oper} {v : Value} {a a' : Act} {w w' : World} (hy : YieldsB P ops B o v a w) (he : execOp a'.eval o = execOp a.eval o)
    (hw : Region.wanted o (yielded ops a'.tmps) = Region.wanted o (yielded ops a.tmps)) (hb : Below B w w') : YieldsB P ops B o v a' w' := by
  rcases hy with ⟨h1, h2⟩ | ⟨h1, h2⟩
  · exact .inl ⟨by rw [hw]; exact h1, fun w'' hb' => by rw [he]; exact h2 w'' (hb.trans hb')⟩
  · exact .inr ⟨by rw [hw]; exact h1, h2⟩

theorem anyB_put {B j : Nat} {oi oj : Oper} {v : Value} (hj : ops[j]? = some oj) (hap : oi.apart ops oj = true)
    (hsi : ∀ cs b, oi.op ≠ .select cs b) (hsj : ∀ cs b, oj.op ≠ .select cs b)
    (hQ : ∀ c a w, Q (.panic c) (a.put oi.dst v) w → Q (.panic c) a w) {K : Act → World → Prop} {a : Act} {w : World}
    (hy : YieldsB P ops B oi v a w) (h : wpOp P ops Q j (fun a' w' => Below B w w' ∧ K a' w') (a.put oi.dst v) w) :
    wpOp P ops Q j (fun a' w' => Below B w w' ∧ YieldsB P ops B oi v a' w' ∧ K (a'.put oi.dst v) w') a w := by
  obtain ⟨h1, h2, h3⟩ := Oper.apart_spec hap
  have keep : ∀ (a : Act) (w w' : World), Below B w w' → YieldsB P ops B oi v a w → ∀ u, YieldsB P ops B oi v (a.put oj.dst u) w' := fun a w w' hb hy u =>
    hy.of_same (execOp_put oi hsi a oj.dst u h3) (wanted_put oi a oj.dst u h3) hb
  have keepD : ∀ d, YieldsB P ops B oi v { a with defers := d :: a.defers } w := fun d => hy.of_same rfl rfl (Below.refl _ _)
  unfold wpOp at *
  simp only [hj] at *
  rw [wanted_put oj a oi.dst v h1] at h
  split
  · rename_i hw
    simp only [hw, if_true] at h
    rcases h with h | ⟨hasks, hlets⟩
    case inr => exact .inr ⟨by unfold Oper.asks at *; rw [execOp_put oj hsj a oi.dst v h1] at hasks; exact hasks, hlets⟩
    refine .inl ?_
    unfold Oper.wp at *
    rw [execOp_put oj hsj a oi.dst v h1] at h
    generalize (execOp a.eval oj).run P w = r at *
    cases r with
    | ok n w' =>
      cases n <;> simp only [Oper.upon] at h ⊢
      case value u => exact ⟨h.1, keep a w _ h.1 hy u, by rw [← Act.put_comm a v u h2]; exact h.2⟩
      case skip => exact ⟨h.1, keep a w _ h.1 hy _, by rw [← Act.put_comm a v undef h2]; exact h.2⟩
      case defer d =>
        refine ⟨h.1, keep _ w _ h.1 (keepD d) _, ?_⟩
        rw [← Act.put_comm _ v undef h2, ← Act.put_defers]
        exact h.2
      case enter f args =>
        refine Calls.mono h fun e w'' he => ?_
        cases e with
        | returned u => exact ⟨he.1, keep a w _ he.1 hy u, by rw [← Act.put_comm a v u h2]; exact he.2⟩
        | panicked c => exact hQ _ _ _ he
        | outgrown => exact he
      case row row args => exact Rows.mono h fun u w'' he => ⟨he.1, keep a w _ he.1 hy u, by rw [← Act.put_comm a v u h2]; exact he.2⟩
    | halt x w' =>
      cases x <;> simp only [Oper.upon] at h ⊢
      case panic u => exact hQ _ _ _ h
  · rename_i hw
    simp only [hw] at h
    exact ⟨h.1, keep a w _ h.1 hy _, by rw [← Act.put_comm a v undef h2]; exact h.2⟩

end
end Go.Proofs.YticnppnejafhdaaGreatDoor
/- Abstract states for walks: data as trees of rows, boxes of the frame by name, rows that the frame owns; what it says of the machine's memory. Generic: no program's numbers. -/
namespace Go.Proofs.YticnppnejafhdaaGreatDoor
open Go.RowKit
namespace Av

/-- A cell's datum: a value that is just this value, or a slice that holds these rows of sz cells. -/
inductive PV where
  | v (x : Value)
  | sl (sz : Nat) (rows : List (List PV))
instance : Inhabited PV := ⟨.v undef⟩
/-- One of a call's results. -/
inductive CV where
  | c (x : PV)
  | g (xs : List PV)
/-- A slot's datum. -/
inductive AV where
  | v (x : Value)
  | sl (sz : Nat) (rows : List (List PV))
  | agg (xs : List PV)
  | tup (vs : List CV)
  | ref (k off : Nat)
  | ept (row : List PV)
  | clo (f : Nat) (caps : List (Nat × Nat))
  | fnv (f : Nat) (caps : List (List PV))
def PV.av : PV → AV
  | .v x => .v x
  | .sl sz rows => .sl sz rows
def CV.av : CV → AV
  | .c x => x.av
  | .g xs => .agg xs

abbrev Reader := Addr → Option Value

inductive RepP (R : Reader) : PV → Value → Prop
  | v (x : Value) (h : x.oneCell' = true) : RepP R (.v x) x
  | sl (sz : Nat) (rows : List (List PV)) (A : Option Addr) (cap : Nat) (f : Nat → Nat → Value) (hsz : ∀ (k : Nat) (row : List PV), rows[k]? = some row → row.length = sz)
      (hA : rows = [] ∨ ∃ b off, A = some ⟨b, off, none⟩ ∧ ∀ (k : Nat) (row : List PV) (j : Nat) (p : PV), rows[k]? = some row → row[j]? = some p → R ⟨b, off + k * sz + j, none⟩ = some (f k j))
      (hf : ∀ (k : Nat) (row : List PV) (j : Nat) (p : PV), rows[k]? = some row → row[j]? = some p → RepP R p (f k j)) (hc : rows.length ≤ cap) : RepP R (.sl sz rows) (.slice A rows.length cap)
theorem RepP.one {R : Reader} {p : PV} {u : Value} (h : RepP R p u) : u.oneCell' = true := by
  cases h with
  | v _ h => exact h
  | sl => rfl
theorem RepP.mono {R R' : Reader} (hR : ∀ p v, R p = some v → R' p = some v) {p : PV} {u : Value} (h : RepP R p u) : RepP R' p u := by
  induction h with
  | v x h => exact .v x h
  | sl sz rows A cap f hsz hA hf hc ih =>
    refine .sl sz rows A cap f hsz ?_ ih hc
    rcases hA with h | ⟨b, off, e, h⟩
    · exact .inl h
    · exact .inr ⟨b, off, e, fun k row j p h1 h2 => hR _ _ (h k row j p h1 h2)⟩

inductive RepL (R : Reader) : List PV → List Value → Prop
  | nil : RepL R [] []
  | cons {p : PV} {u : Value} {ps : List PV} {us : List Value} (h : RepP R p u) (t : RepL R ps us) : RepL R (p :: ps) (u :: us)
theorem RepL.mono {R R' : Reader} (hR : ∀ p v, R p = some v → R' p = some v) {ps : List PV} {us : List Value} (h : RepL R ps us) : RepL R' ps us := by
  induction h with
  | nil => exact .nil
  | cons h _ ih => exact .cons (h.mono hR) ih
theorem RepL.length {R : Reader} {ps : List PV} {us : List Value} (h : RepL R ps us) : us.length = ps.length := by
  induction h with
  | nil => rfl
  | cons _ _ ih => simp [ih]
theorem RepL.get {R : Reader} {ps : List PV} {us : List Value} (h : RepL R ps us) : ∀ {i : Nat} {p : PV}, ps[i]? = some p → ∃ u, us[i]? = some u ∧ RepP R p u := by
  induction h with
  | nil => intro i p hp; simp at hp
  | cons h _ ih =>
    intro i p hp
    cases i with
    | zero => simp at hp; subst hp; exact ⟨_, rfl, h⟩
    | succ i => simpa using ih (by simpa using hp)
theorem RepL.of {R : Reader} : ∀ {ps : List PV} {us : List Value}, ps.length = us.length → (∀ (i : Nat) (p : PV) (u : Value), ps[i]? = some p → us[i]? = some u → RepP R p u) → RepL R ps us
  | [], [], _, _ => .nil
  | p :: ps, u :: us, hl, h => .cons (h 0 p u rfl rfl) (RepL.of (by simpa using hl) fun i q v h1 h2 => h (i + 1) q v (by simpa using h1) (by simpa using h2))
theorem RepL.drop {R : Reader} {ps : List PV} {us : List Value} (h : RepL R ps us) (n : Nat) : RepL R (ps.drop n) (us.drop n) := by
  induction h generalizing n with
  | nil => simp; exact .nil
  | cons h t ih => cases n with
    | zero => exact .cons h t
    | succ n => simpa using ih n
theorem RepL.take {R : Reader} {ps : List PV} {us : List Value} (h : RepL R ps us) (n : Nat) : RepL R (ps.take n) (us.take n) := by
  induction h generalizing n with
  | nil => simp; exact .nil
  | cons h t ih => cases n with
    | zero => simp; exact .nil
    | succ n => simpa using .cons h (ih n)
theorem RepL.append {R : Reader} {ps qs : List PV} {us vs : List Value} (h : RepL R ps us) (h' : RepL R qs vs) : RepL R (ps ++ qs) (us ++ vs) := by
  induction h with
  | nil => exact h'
  | cons h _ ih => exact .cons h ih
theorem RepL.one {R : Reader} {ps : List PV} {us : List Value} (h : RepL R ps us) : ∀ u ∈ us, u.oneCell' = true := by
  induction h with
  | nil => intro u hu; cases hu
  | cons h _ ih =>
    intro u hu
    rcases List.mem_cons.1 hu with rfl | hu
    · exact h.one
    · exact ih u hu
theorem RepL.set {R : Reader} {ps : List PV} {us : List Value} (h : RepL R ps us) {p : PV} {u : Value} (hp : RepP R p u) (i : Nat) : RepL R (ps.set i p) (us.set i u) := by
  induction h generalizing i with
  | nil => simp; exact .nil
  | cons h t ih => cases i with
    | zero => exact .cons hp t
    | succ i => exact .cons h (ih i)

inductive RepC (R : Reader) : CV → Value → Prop
  | c {p : PV} {u : Value} (h : RepP R p u) : RepC R (.c p) u
  | g {ps : List PV} {us : List Value} (h : RepL R ps us) : RepC R (.g ps) (.agg us.toArray)
inductive RepCL (R : Reader) : List CV → List Value → Prop
  | nil : RepCL R [] []
  | cons {p : CV} {u : Value} {ps : List CV} {us : List Value} (h : RepC R p u) (t : RepCL R ps us) : RepCL R (p :: ps) (u :: us)
/-- A pointer to cells that can be read, and hold this. -/
def RepE (R : Reader) (row : List PV) (u : Value) : Prop :=
  ∃ b off us, u = .pointer (some ⟨b, off, none⟩) ∧ RepL R row us ∧ ∀ (i : Nat) (x : Value), us[i]? = some x → R ⟨b, off + i, none⟩ = some x
inductive RepEL (R : Reader) : List (List PV) → List Value → Prop
  | nil : RepEL R [] []
  | cons {p : List PV} {u : Value} {ps : List (List PV)} {us : List Value} (h : RepE R p u) (t : RepEL R ps us) : RepEL R (p :: ps) (u :: us)
/-- What a slot's datum says of its value; bx: where the frame's boxes lie. -/
def RepA (R : Reader) (bx : Nat → Nat) : AV → Value → Prop
  | .v x, u => u = x
  | .sl sz rows, u => RepP R (.sl sz rows) u
  | .agg xs, u => ∃ us, u = .agg us.toArray ∧ RepL R xs us
  | .tup vs, u => ∃ us, u = .tuple us.toArray ∧ RepCL R vs us
  | .ref k off, u => u = .pointer (some ⟨bx k, off, none⟩)
  | .ept row, u => RepE R row u
  | .clo f caps, u => u = .func (.func f) #[] (caps.map fun c => Value.pointer (some ⟨bx c.1, c.2, none⟩)).toArray
  | .fnv f caps, u => ∃ us, u = .func (.func f) #[] us.toArray ∧ RepEL R caps us
theorem RepC.mono {R R' : Reader} (hR : ∀ p v, R p = some v → R' p = some v) {p : CV} {u : Value} (h : RepC R p u) : RepC R' p u := by
  cases h with
  | c h => exact .c (h.mono hR)
  | g h => exact .g (h.mono hR)
theorem RepCL.mono {R R' : Reader} (hR : ∀ p v, R p = some v → R' p = some v) {ps : List CV} {us : List Value} (h : RepCL R ps us) : RepCL R' ps us := by
  induction h with
  | nil => exact .nil
  | cons h _ ih => exact .cons (h.mono hR) ih
theorem RepE.mono {R R' : Reader} (hR : ∀ p v, R p = some v → R' p = some v) {row : List PV} {u : Value} (h : RepE R row u) : RepE R' row u := by
  obtain ⟨b, off, us, e, h1, h2⟩ := h
  exact ⟨b, off, us, e, h1.mono hR, fun i x hx => hR _ _ (h2 i x hx)⟩
theorem RepEL.mono {R R' : Reader} (hR : ∀ p v, R p = some v → R' p = some v) {ps : List (List PV)} {us : List Value} (h : RepEL R ps us) : RepEL R' ps us := by
  induction h with
  | nil => exact .nil
  | cons h _ ih => exact .cons (h.mono hR) ih
theorem RepP.av {R : Reader} {bx : Nat → Nat} {p : PV} {u : Value} (h : RepP R p u) : RepA R bx p.av u := by
  cases h with
  | v => rfl
  | sl sz rows A cap f hsz hA hf hc => exact RepP.sl sz rows A cap f hsz hA hf hc
theorem RepC.av {R : Reader} {bx : Nat → Nat} {p : CV} {u : Value} (h : RepC R p u) : RepA R bx p.av u := by
  cases h with
  | c h => exact h.av
  | g h => exact ⟨_, rfl, h⟩
/-- The boxes that a datum points into. -/
def AV.refs : AV → List Nat
  | .ref k _ => [k]
  | .clo _ caps => caps.map Prod.fst
  | _ => []
theorem RepA.mono {R R' : Reader} (hR : ∀ p v, R p = some v → R' p = some v) {bx bx' : Nat → Nat} {x : AV} {u : Value} (hb : ∀ k ∈ x.refs, bx' k = bx k) (h : RepA R bx x u) : RepA R' bx' x u := by
  cases x with
  | v x => exact h
  | sl sz rows => exact RepP.mono hR h
  | agg xs => obtain ⟨us, e, h⟩ := h; exact ⟨us, e, h.mono hR⟩
  | tup vs => obtain ⟨us, e, h⟩ := h; exact ⟨us, e, h.mono hR⟩
  | ref k off => show u = _; rw [hb k (by simp [AV.refs])]; exact h
  | ept row => exact RepE.mono hR h
  | clo f caps =>
    show u = _
    rw [show u = _ from h]
    congr 2
    refine List.map_congr_left fun c hc => ?_
    rw [hb c.1 (List.mem_map_of_mem hc)]
  | fnv f caps => obtain ⟨us, e, h⟩ := h; exact ⟨us, e, h.mono hR⟩

/-- Where an owned slice's header lies: in a slot, or in a box's cell. -/
inductive Loc where
  | s (t : Nat)
  | b (k off : Nat)
deriving DecidableEq

def look {α : Type} : List (Nat × α) → Nat → Option α
  | [], _ => none
  | (k, x) :: l, t => if k = t then some x else look l t
def lookL {α : Type} : List (Loc × α) → Loc → Option α
  | [], _ => none
  | (k, x) :: l, t => if k = t then some x else lookL l t
/-- What else the frame holds: blocks of its own that no operation of the abstract states touches (foot; froz: those that can be read, too, and stay), and what is said of them. -/
structure Ext where
  foot : Nat → Prop
  froz : Nat → Prop
  holds : World → Prop
  stable : ∀ {w w' : World}, (∀ b, foot b ∨ froz b → w'.heap[b]? = w.heap[b]?) → holds w → holds w'
  laid : World → Prop := fun _ => True
  reads : Reader → Prop := fun _ => True
  rmono : ∀ {R R' : Reader}, (∀ p v, R p = some v → R' p = some v) → reads R → reads R' := by intros; trivial
def Ext.nil : Ext := ⟨fun _ => False, fun _ => False, fun _ => True, fun _ _ => trivial, fun _ => True, fun _ => True, fun _ _ => trivial⟩
structure St where
  slot : List (Nat × AV)
  box : List (Nat × List PV)
  own : List (Loc × (TypeId × Nat))
  ext : Ext
def St.avAt (σ : St) : Loc → Option AV
  | .s t => look σ.slot t
  | .b k off => ((look σ.box k).bind (·[off]?)).map PV.av
structure Gh where
  bx : Nat → Nat
  rw : Loc → Option Nat
/-- Cells that may still be written. -/
def St.mut (σ : St) (γ : Gh) (p : Addr) : Prop :=
  (∃ k cs, look σ.box k = some cs ∧ p.block = γ.bx k) ∨
  (∃ L e sz rows, lookL σ.own L = some (e, sz) ∧ σ.avAt L = some (.sl sz rows) ∧ γ.rw L = some p.block ∧ rows.length * sz ≤ p.off) ∨ σ.ext.foot p.block
open Classical in
/-- What can be read and will stay: of what was there before the frame what R0 gives; of the frame's own blocks all that cannot be written any more. -/
noncomputable def rdr (R0 : Reader) (B : Nat) (σ : St) (γ : Gh) (w : World) : Reader := fun p =>
  if p.block < B then R0 p else if σ.mut γ p then none else w.cell? p
def valAt (a : Act) (w : World) (γ : Gh) : Loc → Option Value
  | .s t => some (a.tmps.getD t undef)
  | .b k off => w.cell? ⟨γ.bx k, off, none⟩
def OwnV (w : World) (B : Nat) (e : TypeId) (sz n : Nat) (v : Value) : Option Nat → Prop
  | none => v = .slice none 0 0 ∧ n = 0
  | some g => ∃ cap cur, v = .slice (some ⟨g, 0, none⟩) n cap ∧ B ≤ g ∧ w.heap[g]? = some (.cells cur e (0, 0)) ∧ n ≤ cap ∧ cap ≤ maxLen ∧ cur.size = cap * sz
/-- The frame's constants: what was there when it began. -/
structure Fr where
  R0 : Reader
  w0 : World
  n : Nat
structure Rel (F : Fr) (σ : St) (γ : Gh) (a : Act) (w : World) : Prop where
  defers : a.defers = []
  size : a.tmps.size = F.n
  below : Below F.w0.heap.size F.w0 w
  r0 : ∀ p v, F.R0 p = some v → F.w0.cell? p = some v
  slots : ∀ t x, look σ.slot t = some x → RepA (rdr F.R0 F.w0.heap.size σ γ w) γ.bx x (a.tmps.getD t undef) ∧ ∀ k ∈ x.refs, (look σ.box k).isSome
  boxes : ∀ k cs, look σ.box k = some cs → ∃ us ty, w.heap[γ.bx k]? = some (.cells us.toArray ty (0, 0)) ∧ F.w0.heap.size ≤ γ.bx k ∧ RepL (rdr F.R0 F.w0.heap.size σ γ w) cs us
  boxinj : ∀ k k', (look σ.box k).isSome → (look σ.box k').isSome → γ.bx k = γ.bx k' → k = k'
  owns : ∀ L e sz, lookL σ.own L = some (e, sz) → ∃ rows v, σ.avAt L = some (.sl sz rows) ∧ valAt a w γ L = some v ∧ OwnV w F.w0.heap.size e sz rows.length v (γ.rw L)
  rowinj : ∀ L L' g, (lookL σ.own L).isSome → (lookL σ.own L').isSome → γ.rw L = some g → γ.rw L' = some g → L = L'
  rowbox : ∀ L k g, (lookL σ.own L).isSome → (look σ.box k).isSome → γ.rw L = some g → g ≠ γ.bx k
  exth : σ.ext.holds w
  extf : ∀ b, σ.ext.foot b ∨ σ.ext.froz b → F.w0.heap.size ≤ b ∧ b < w.heap.size ∧ (∀ k, (look σ.box k).isSome → γ.bx k ≠ b) ∧ (∀ L, (lookL σ.own L).isSome → γ.rw L ≠ some b)
  small : F.n ≤ 1000000
  dyn : ∀ k, (look σ.box k).isSome → 1000000 ≤ k → γ.bx k = k - 1000000
  laid : σ.ext.laid F.w0
  extr : σ.ext.reads (rdr F.R0 F.w0.heap.size σ γ w)

end Av
end Go.Proofs.YticnppnejafhdaaGreatDoor
/- Abstract states: how they follow the machine's steps: a slot written, a new box, a store, a row that grows. Generic. -/
namespace Go.Proofs.YticnppnejafhdaaGreatDoor
open Go.RowKit
namespace Av

theorem look_cons {α : Type} (k : Nat) (x : α) (l : List (Nat × α)) (t : Nat) : look ((k, x) :: l) t = if k = t then some x else look l t := rfl
theorem lookL_cons {α : Type} (k : Loc) (x : α) (l : List (Loc × α)) (t : Loc) : lookL ((k, x) :: l) t = if k = t then some x else lookL l t := rfl
def delL {α : Type} (l : List (Loc × α)) (L : Loc) : List (Loc × α) := l.filter fun x => !(x.1 == L)
theorem lookL_del {α : Type} (l : List (Loc × α)) (L L' : Loc) : lookL (delL l L) L' = if L' = L then none else lookL l L' := by
  induction l with
  | nil => simp [delL, lookL]
  | cons x l ih =>
    obtain ⟨k, x⟩ := x
    unfold delL at ih ⊢
    by_cases h : k = L
    · subst h
      rw [List.filter_cons_of_neg (by simp), ih, lookL_cons]
      by_cases h' : L' = k
      · subst h'; simp
      · rw [if_neg h', if_neg h', if_neg (fun e => h' e.symm)]
    · rw [List.filter_cons_of_pos (by simpa using h), lookL_cons, lookL_cons, ih]
      by_cases h' : L' = L
      · subst h'; rw [if_neg h]; simp
      · simp [h']
def St.put (σ : St) (d : Nat) (x : AV) : St := { slot := (d, x) :: σ.slot, box := σ.box, own := delL σ.own (.s d), ext := σ.ext }

theorem rdr_le {R0 : Reader} {B : Nat} {σ σ' : St} {γ γ' : Gh} {w w' : World}
    (h : ∀ p v, B ≤ p.block → ¬ σ.mut γ p → w.cell? p = some v → ¬ σ'.mut γ' p ∧ w'.cell? p = some v) :
    ∀ p v, rdr R0 B σ γ w p = some v → rdr R0 B σ' γ' w' p = some v := by
  intro p v hp
  unfold rdr at hp ⊢
  by_cases hB : p.block < B
  · rw [if_pos hB] at hp ⊢; exact hp
  · rw [if_neg hB] at hp ⊢
    by_cases hm : σ.mut γ p
    · rw [if_pos hm] at hp; cases hp
    · rw [if_neg hm] at hp
      obtain ⟨h1, h2⟩ := h p v (by omega) hm hp
      rw [if_neg h1]; exact h2
theorem avAt_put {σ : St} {d : Nat} {x : AV} {L : Loc} (h : L ≠ .s d) : (σ.put d x).avAt L = σ.avAt L := by
  cases L with
  | s t =>
    have : d ≠ t := fun e => h (by rw [e])
    simp [St.avAt, St.put, look_cons, this]
  | b k off => rfl
theorem own_put {σ : St} {d : Nat} {x : AV} {L : Loc} {e : TypeId × Nat} (h : lookL (σ.put d x).own L = some e) : L ≠ .s d ∧ lookL σ.own L = some e := by
  unfold St.put at h
  dsimp only at h
  rw [lookL_del] at h
  by_cases hL : L = .s d
  · rw [if_pos hL] at h; cases h
  · rw [if_neg hL] at h; exact ⟨hL, h⟩
theorem mut_put {σ : St} {γ : Gh} {d : Nat} {x : AV} {p : Addr} (h : (σ.put d x).mut γ p) : σ.mut γ p := by
  rcases h with h | ⟨L, e, sz, rows, h1, h2, h3⟩ | h
  · exact .inl h
  · obtain ⟨hL, h1⟩ := own_put h1
    exact .inr (.inl ⟨L, e, sz, rows, h1, (avAt_put hL).symm.trans h2, h3⟩)
  · exact .inr (.inr h)
theorem put_le {F : Fr} {σ : St} {γ : Gh} {w : World} {d : Nat} {x : AV} : ∀ p v, rdr F.R0 F.w0.heap.size σ γ w p = some v → rdr F.R0 F.w0.heap.size (σ.put d x) γ w p = some v :=
  rdr_le fun _ _ _ hm hc => ⟨fun h => hm (mut_put h), hc⟩
theorem getD_put {a : Act} {d t : Nat} {u : Value} (hd : d < a.tmps.size) : (a.put (some d) u).tmps.getD t undef = if d = t then u else a.tmps.getD t undef := by
  unfold Act.put
  dsimp only
  by_cases h : d = t
  · subst h
    rw [if_pos rfl]
    simp [Array.getD, hd]
  · rw [if_neg h]
    simp [Array.getD_eq_getD_getElem?, Array.getElem?_setIfInBounds, h]
theorem size_put {a : Act} {d : Option Nat} {u : Value} : (a.put d u).tmps.size = a.tmps.size := by
  cases d <;> simp [Act.put]
theorem defers_put {a : Act} {d : Option Nat} {u : Value} : (a.put d u).defers = a.defers := by
  cases d <;> rfl

/-- A slot is written. -/
theorem Rel.put {F : Fr} {σ : St} {γ : Gh} {a : Act} {w : World} (h : Rel F σ γ a w) {d : Nat} (hd : d < F.n) {x : AV} {u : Value} (hx : RepA (rdr F.R0 F.w0.heap.size σ γ w) γ.bx x u) (hr : ∀ k ∈ x.refs, (look σ.box k).isSome) :
    Rel F (σ.put d x) γ (a.put (some d) u) w := by
  have hd' : d < a.tmps.size := by rw [h.size]; exact hd
  have hval : ∀ L, L ≠ .s d → valAt (a.put (some d) u) w γ L = valAt a w γ L := fun L hL => by
    cases L with
    | s t =>
      have : d ≠ t := fun e => hL (by rw [e])
      simp only [valAt, getD_put hd', if_neg this]
    | b k off => rfl
  refine ⟨by rw [defers_put]; exact h.defers, by rw [size_put]; exact h.size, h.below, h.r0, fun t y hy => ?_, fun k cs hk => ?_, h.boxinj, fun L e sz hL => ?_, fun L L' g hL hL' => ?_, fun L k g hL hk => ?_, h.exth, fun b hb => ?_, h.small, h.dyn, h.laid, σ.ext.rmono put_le h.extr⟩
  · simp only [St.put, look_cons] at hy
    rw [getD_put hd']
    by_cases hdt : d = t
    · rw [if_pos hdt] at hy ⊢
      cases hy
      exact ⟨hx.mono put_le (fun _ _ => rfl), hr⟩
    · rw [if_neg hdt] at hy ⊢
      obtain ⟨h1, h2⟩ := h.slots t y hy
      exact ⟨h1.mono put_le (fun _ _ => rfl), h2⟩
  · obtain ⟨us, ty, h1, h2, h3⟩ := h.boxes k cs hk
    exact ⟨us, ty, h1, h2, h3.mono put_le⟩
  · obtain ⟨hne, hL⟩ := own_put hL
    obtain ⟨rows, v, h1, h2, h3⟩ := h.owns L e sz hL
    exact ⟨rows, v, (avAt_put hne).trans h1, (hval L hne).trans h2, h3⟩
  · obtain ⟨e, he⟩ := Option.isSome_iff_exists.1 hL
    obtain ⟨e', he'⟩ := Option.isSome_iff_exists.1 hL'
    exact h.rowinj L L' g (by rw [(own_put he).2]; rfl) (by rw [(own_put he').2]; rfl)
  · obtain ⟨e, he⟩ := Option.isSome_iff_exists.1 hL
    exact h.rowbox L k g (by rw [(own_put he).2]; rfl) hk
  · obtain ⟨h1, h2, h3, h4⟩ := h.extf b hb
    refine ⟨h1, h2, h3, fun L hL => ?_⟩
    obtain ⟨e, he⟩ := Option.isSome_iff_exists.1 hL
    exact h4 L (by rw [(own_put he).2]; rfl)
theorem Rel.cell_lt {w : World} {p : Addr} {v : Value} (h : w.cell? p = some v) : p.block < w.heap.size := World.block_lt_of_cell? w p h
theorem Rel.base {F : Fr} {σ : St} {γ : Gh} {a : Act} {w : World} (h : Rel F σ γ a w) : F.w0.heap.size ≤ w.heap.size := h.below.size
theorem Rel.box_lt {F : Fr} {σ : St} {γ : Gh} {a : Act} {w : World} (h : Rel F σ γ a w) {k : Nat} (hk : (look σ.box k).isSome) : γ.bx k < w.heap.size ∧ F.w0.heap.size ≤ γ.bx k := by
  obtain ⟨cs, hk⟩ := Option.isSome_iff_exists.1 hk
  obtain ⟨us, ty, h1, h2, _⟩ := h.boxes k cs hk
  exact ⟨(Array.getElem?_eq_some_iff.1 h1).1, h2⟩
theorem OwnV.lt {w : World} {B : Nat} {e : TypeId} {sz n : Nat} {v : Value} {g : Nat} (h : OwnV w B e sz n v (some g)) : B ≤ g ∧ g < w.heap.size := by
  obtain ⟨cap, cur, _, h1, h2, _⟩ := h
  exact ⟨h1, (Array.getElem?_eq_some_iff.1 h2).1⟩
theorem OwnV.keep {w w' : World} {B : Nat} {e : TypeId} {sz n : Nat} {v : Value} {q : Option Nat} (h : OwnV w B e sz n v q) (hb : ∀ g, q = some g → w'.heap[g]? = w.heap[g]?) : OwnV w' B e sz n v q := by
  cases q with
  | none => exact h
  | some g =>
    obtain ⟨cap, cur, h0, h1, h2, h3⟩ := h
    exact ⟨cap, cur, h0, h1, (hb g rfl).trans h2, h3⟩
theorem OwnV.low {w : World} {B B' : Nat} {e : TypeId} {sz n : Nat} {v : Value} {q : Option Nat} (h : OwnV w B e sz n v q) (hB : B' ≤ B) : OwnV w B' e sz n v q := by
  cases q with
  | none => exact h
  | some g =>
    obtain ⟨cap, cur, h0, h1, h2⟩ := h
    exact ⟨cap, cur, h0, Nat.le_trans hB h1, h2⟩
theorem Rel.row_lt {F : Fr} {σ : St} {γ : Gh} {a : Act} {w : World} (h : Rel F σ γ a w) {L : Loc} (hL : (lookL σ.own L).isSome) {g : Nat} (hg : γ.rw L = some g) : g < w.heap.size ∧ F.w0.heap.size ≤ g := by
  obtain ⟨e, he⟩ := Option.isSome_iff_exists.1 hL
  obtain ⟨rows, v, _, _, h3⟩ := h.owns L e.1 e.2 he
  rw [hg] at h3
  exact ⟨h3.lt.2, h3.lt.1⟩
/-- A step that leaves all that is there: a call, a draw. -/
theorem grow_le {F : Fr} {σ : St} {γ : Gh} {w w1 : World} (hb : Below w.heap.size w w1) : ∀ p v, rdr F.R0 F.w0.heap.size σ γ w p = some v → rdr F.R0 F.w0.heap.size σ γ w1 p = some v :=
  rdr_le fun _ _ _ hm hc => ⟨hm, (hb.cell (Rel.cell_lt hc)).trans hc⟩
theorem Rel.grow {F : Fr} {σ : St} {γ : Gh} {a : Act} {w w1 : World} (h : Rel F σ γ a w) (hb : Below w.heap.size w w1) : Rel F σ γ a w1 := by
  refine ⟨h.defers, h.size, h.below.trans (hb.mono h.base), h.r0, fun t x hx => ?_, fun k cs hk => ?_, h.boxinj, fun L e sz hL => ?_, h.rowinj, h.rowbox, σ.ext.stable (fun b hbf => hb.block b (h.extf b hbf).2.1) h.exth, fun b hbf => by
    obtain ⟨h1, h2, h3, h4⟩ := h.extf b hbf
    exact ⟨h1, Nat.lt_of_lt_of_le h2 hb.size, h3, h4⟩, h.small, h.dyn, h.laid, σ.ext.rmono (grow_le hb) h.extr⟩
  · obtain ⟨h1, h2⟩ := h.slots t x hx
    exact ⟨h1.mono (grow_le hb) (fun _ _ => rfl), h2⟩
  · obtain ⟨us, ty, h1, h2, h3⟩ := h.boxes k cs hk
    exact ⟨us, ty, (hb.block _ (Array.getElem?_eq_some_iff.1 h1).1).trans h1, h2, h3.mono (grow_le hb)⟩
  · obtain ⟨rows, v, h1, h2, h3⟩ := h.owns L e sz hL
    refine ⟨rows, v, h1, ?_, h3.keep fun g hg => hb.block g ?_⟩
    · cases L with
      | s t => exact h2
      | b k off => exact (hb.cell (p := ⟨γ.bx k, off, none⟩) (Rel.cell_lt h2)).trans h2
    · rw [hg] at h3; exact h3.lt.2
/-- A new box. -/
def St.addBox (σ : St) (k : Nat) (cs : List PV) : St := { σ with box := (k, cs) :: σ.box }
def Gh.addBox (γ : Gh) (k b : Nat) : Gh := { γ with bx := fun j => if j = k then b else γ.bx j }
theorem Rel.addBox {F : Fr} {σ : St} {γ : Gh} {a : Act} {w : World} (h : Rel F σ γ a w) {k : Nat} (hkn : k < 1000000) (hk : look σ.box k = none) {cs : List PV} {us : List Value} (hl : RepL (rdr F.R0 F.w0.heap.size σ γ w) cs us) (ty : TypeId) :
    Rel F (σ.addBox k cs) (γ.addBox k w.heap.size) a (w.alloc (.cells us.toArray ty)) := by
  have hold : ∀ j, j ≠ k → (γ.addBox k w.heap.size).bx j = γ.bx j := fun j hj => by simp [Gh.addBox, hj]
  have hnew : (γ.addBox k w.heap.size).bx k = w.heap.size := by simp [Gh.addBox]
  have hkne : ∀ j, (look σ.box j).isSome → j ≠ k := fun j hj e => by subst e; rw [hk] at hj; cases hj
  have hlb : ∀ j, look (σ.addBox k cs).box j = if k = j then some cs else look σ.box j := fun j => look_cons _ _ _ _
  have hb : Below w.heap.size w (w.alloc (.cells us.toArray ty)) := (Below.refl _ _).alloc (Nat.le_refl _) _
  have hownk : ∀ off, lookL σ.own (.b k off) = none := fun off => by
    cases hq : lookL σ.own (.b k off) with
    | none => rfl
    | some e =>
      obtain ⟨rows, v, h1, _⟩ := h.owns _ e.1 e.2 hq
      simp [St.avAt, hk] at h1
  have hav : ∀ L, (lookL σ.own L).isSome → (σ.addBox k cs).avAt L = σ.avAt L := fun L hL => by
    cases L with
    | s t => rfl
    | b j off =>
      have : k ≠ j := fun e => by subst e; rw [hownk] at hL; cases hL
      simp [St.avAt, hlb, this]
  have hle : ∀ p v, rdr F.R0 F.w0.heap.size σ γ w p = some v → rdr F.R0 F.w0.heap.size (σ.addBox k cs) (γ.addBox k w.heap.size) (w.alloc (.cells us.toArray ty)) p = some v := by
    refine rdr_le fun p v hB hm hc => ⟨fun hm' => ?_, (hb.cell (Rel.cell_lt hc)).trans hc⟩
    have hplt := Rel.cell_lt hc
    rcases hm' with ⟨j, cs', hj, hp⟩ | ⟨L, e, sz, rows, h1, h2, h3, h4⟩ | hx
    · rw [hlb] at hj
      by_cases hkj : k = j
      · subst hkj; rw [hnew] at hp; omega
      · rw [if_neg hkj] at hj
        exact hm (.inl ⟨j, cs', hj, by rw [hp, hold j (fun e => hkj e.symm)]⟩)
    · exact hm (.inr (.inl ⟨L, e, sz, rows, h1, by rw [← hav L (by rw [show lookL σ.own L = _ from h1]; rfl)]; exact h2, h3, h4⟩))
    · exact hm (.inr (.inr hx))
  refine ⟨h.defers, h.size, h.below.trans (hb.mono h.base), h.r0, fun t x hx => ?_, fun j cs' hj => ?_, fun j j' hj hj' => ?_, fun L e sz hL => ?_, h.rowinj, fun L j g hL hj hg => ?_, σ.ext.stable (fun b hbf => hb.block b (h.extf b hbf).2.1) h.exth, fun b hbf => ?ext, h.small, fun j hj hd => by
    rw [hlb] at hj
    have hkj : k ≠ j := by omega
    rw [if_neg hkj] at hj
    rw [hold j (fun e => hkj e.symm)]
    exact h.dyn j hj hd, h.laid, σ.ext.rmono hle h.extr⟩
  case ext =>
    obtain ⟨h1, h2, h3, h4⟩ := h.extf b hbf
    refine ⟨h1, Nat.lt_of_lt_of_le h2 hb.size, fun j hj => ?_, h4⟩
    rw [hlb] at hj
    by_cases hkj : k = j
    · subst hkj; rw [hnew]; omega
    · rw [if_neg hkj] at hj
      rw [hold j (fun e => hkj e.symm)]
      exact h3 j hj
  · obtain ⟨h1, h2⟩ := h.slots t x hx
    refine ⟨h1.mono hle (fun j hj => hold j (hkne j (h2 j hj))), fun j hj => ?_⟩
    rw [hlb, if_neg (fun e => hkne j (h2 j hj) e.symm)]
    exact h2 j hj
  · rw [hlb] at hj
    by_cases hkj : k = j
    · subst hkj
      rw [if_pos rfl] at hj
      cases hj
      exact ⟨us, ty, by rw [hnew]; exact heap_alloc_new w _, by rw [hnew]; exact h.base, hl.mono hle⟩
    · rw [if_neg hkj] at hj
      obtain ⟨us', ty', h1, h2, h3⟩ := h.boxes j cs' hj
      rw [hold j (fun e => hkj e.symm)]
      exact ⟨us', ty', (hb.block _ (Array.getElem?_eq_some_iff.1 h1).1).trans h1, h2, h3.mono hle⟩
  · rw [hlb] at hj hj'
    by_cases h1 : k = j <;> by_cases h2 : k = j'
    · intro _; rw [← h1, ← h2]
    · subst h1
      rw [if_neg h2] at hj'
      rw [hnew, hold j' (fun e => h2 e.symm)]
      have := (h.box_lt hj').1
      intro e; omega
    · subst h2
      rw [if_neg h1] at hj
      rw [hnew, hold j (fun e => h1 e.symm)]
      have := (h.box_lt hj).1
      intro e; omega
    · rw [if_neg h1] at hj
      rw [if_neg h2] at hj'
      rw [hold j (fun e => h1 e.symm), hold j' (fun e => h2 e.symm)]
      exact h.boxinj j j' hj hj'
  · obtain ⟨rows, v, h1, h2, h3⟩ := h.owns L e sz hL
    have hL' : (lookL σ.own L).isSome := by rw [show lookL σ.own L = _ from hL]; rfl
    refine ⟨rows, v, (hav L hL').trans h1, ?_, h3.keep fun g hg => hb.block g (h.row_lt hL' hg).1⟩
    cases L with
    | s t => exact h2
    | b j off =>
      have : j ≠ k := fun e => by subst e; rw [hownk] at hL'; cases hL'
      show (w.alloc _).cell? ⟨(γ.addBox k w.heap.size).bx j, off, none⟩ = some v
      rw [hold j this]
      exact (hb.cell (p := ⟨γ.bx j, off, none⟩) (Rel.cell_lt h2)).trans h2
  · rw [hlb] at hj
    by_cases hkj : k = j
    · subst hkj
      rw [hnew]
      have := (h.row_lt hL hg).1
      omega
    · rw [if_neg hkj] at hj
      rw [hold j (fun e => hkj e.symm)]
      exact h.rowbox L j g hL hj hg

/-- States that say no more. -/
structure St.Sub (σ σ' : St) : Prop where
  slot : ∀ t x, look σ'.slot t = some x → look σ.slot t = some x
  box : ∀ k cs, look σ'.box k = some cs → look σ.box k = some cs
  own : ∀ L e, lookL σ'.own L = some e → lookL σ.own L = some e ∧ σ'.avAt L = σ.avAt L
  refs : ∀ t x, look σ'.slot t = some x → ∀ k ∈ x.refs, (look σ'.box k).isSome
  ext : σ'.ext = σ.ext
theorem Rel.sub {F : Fr} {σ σ' : St} {γ : Gh} {a : Act} {w : World} (h : Rel F σ γ a w) (hs : σ.Sub σ') : Rel F σ' γ a w := by
  have hle : ∀ p v, rdr F.R0 F.w0.heap.size σ γ w p = some v → rdr F.R0 F.w0.heap.size σ' γ w p = some v := by
    refine rdr_le fun p v hB hm hc => ⟨fun hm' => ?_, hc⟩
    rcases hm' with ⟨j, cs', hj, hp⟩ | ⟨L, e, sz, rows, h1, h2, h3, h4⟩ | hx
    · exact hm (.inl ⟨j, cs', hs.box _ _ hj, hp⟩)
    · obtain ⟨h5, h6⟩ := hs.own _ _ h1
      exact hm (.inr (.inl ⟨L, e, sz, rows, h5, h6.symm.trans h2, h3, h4⟩))
    · rw [hs.ext] at hx; exact hm (.inr (.inr hx))
  have hsome : ∀ L, (lookL σ'.own L).isSome → (lookL σ.own L).isSome := fun L hL => by
    obtain ⟨e, he⟩ := Option.isSome_iff_exists.1 hL
    rw [(hs.own _ _ he).1]; rfl
  have hbox : ∀ k, (look σ'.box k).isSome → (look σ.box k).isSome := fun k hk => by
    obtain ⟨cs, he⟩ := Option.isSome_iff_exists.1 hk
    rw [hs.box _ _ he]; rfl
  refine ⟨h.defers, h.size, h.below, h.r0, fun t x hx => ?_, fun k cs hk => ?_, fun j j' hj hj' => h.boxinj j j' (hbox j hj) (hbox j' hj'), fun L e sz hL => ?_, fun L L' g hL hL' => h.rowinj L L' g (hsome L hL) (hsome L' hL'), fun L k g hL hk => h.rowbox L k g (hsome L hL) (hbox k hk), by rw [hs.ext]; exact h.exth, fun b hb => by
    rw [hs.ext] at hb
    obtain ⟨h1, h2, h3, h4⟩ := h.extf b hb
    exact ⟨h1, h2, fun k hk => h3 k (hbox k hk), fun L hL => h4 L (hsome L hL)⟩, h.small, fun k hk => h.dyn k (hbox k hk), by rw [hs.ext]; exact h.laid, by rw [hs.ext]; exact σ.ext.rmono hle h.extr⟩
  · obtain ⟨h1, _⟩ := h.slots t x (hs.slot _ _ hx)
    exact ⟨h1.mono hle (fun _ _ => rfl), hs.refs t x hx⟩
  · obtain ⟨us, ty, h1, h2, h3⟩ := h.boxes k cs (hs.box _ _ hk)
    exact ⟨us, ty, h1, h2, h3.mono hle⟩
  · obtain ⟨h5, h6⟩ := hs.own _ _ hL
    obtain ⟨rows, v, h1, h2, h3⟩ := h.owns L e sz h5
    exact ⟨rows, v, h6.trans h1, h2, h3⟩
/-- The same state, written otherwise. -/
theorem Rel.congr {F : Fr} {σ σ' : St} {γ : Gh} {a : Act} {w : World} (h : Rel F σ γ a w) (h1 : ∀ t, look σ'.slot t = look σ.slot t) (h2 : ∀ k, look σ'.box k = look σ.box k) (h3 : ∀ L, lookL σ'.own L = lookL σ.own L) (h4 : σ'.ext = σ.ext) : Rel F σ' γ a w :=
  h.sub ⟨fun t x hx => (h1 t).symm.trans hx, fun k cs hk => (h2 k).symm.trans hk, fun L e he => ⟨(h3 L).symm.trans he, by cases L <;> simp [St.avAt, h1, h2]⟩, fun t x hx k hk => by
    rw [h2]; exact (h.slots t x ((h1 t).symm.trans hx)).2 k hk, h4⟩

end Av
end Go.Proofs.YticnppnejafhdaaGreatDoor
/- Abstract states: rows that the frame owns: made, grown, handed on; a store into a box. Generic. -/
namespace Go.Proofs.YticnppnejafhdaaGreatDoor
open Go.RowKit
namespace Av

theorem add_mid (b o j : Nat) : (⟨b, o, none⟩ : Addr).add j = ⟨b, o + j, none⟩ := Addr.add_mid b o j
section
variable {P : Program}
/-- append onto a row that is owned. -/
theorem run_append_av (w : World) (base : Nat) (t ty e : TypeId) (i : TypeInfo) (z : Value) (ht : P.underlying t = some (.slice e)) (hi : P.info? e = some i) (hz : i.zero = some z)
    (hzs : z.cells.size = i.size) (hsz : 0 < i.size) (hby : i.bytes ≤ 1000000) (v : Value) (n : Nat) (xs : List Value) (q : Option Nat) (hown : OwnV w base e i.size n v q) (hxl : xs.length = n * i.size)
    (hxs : ∀ g, q = some g → ∀ (j : Nat) (u : Value), xs[j]? = some u → w.cell? ⟨g, j, none⟩ = some u)
    (A : Option Addr) (m c : Nat) (news : List Value) (hl : news.length = m * i.size) (hA : m = 0 ∨ ∃ b off, A = some ⟨b, off, none⟩ ∧ ∀ (j : Nat) (u : Value), news[j]? = some u → w.cell? ⟨b, off + j, none⟩ = some u)
    (h1 : ∀ u ∈ news, u.oneCell' = true) (hnm : n + m ≤ 100000000) (hbase : base ≤ w.heap.size) :
    ∃ v' w' q', (Builtin.append_ #[t, t] ty #[v, .slice A m c]).run P w = .ok v' w' ∧ OwnV w' base e i.size (n + m) v' q' ∧ (∀ g, q' = some g → ∀ (j : Nat) (u : Value), (xs ++ news)[j]? = some u → w'.cell? ⟨g, j, none⟩ = some u) ∧
      (∀ k, k < w.heap.size → q ≠ some k → w'.heap[k]? = w.heap[k]?) ∧ (∀ g, q = some g → ∀ j, j < n * i.size → w'.cell? ⟨g, j, none⟩ = w.cell? ⟨g, j, none⟩) ∧ (q' = q ∨ q' = some w.heap.size) ∧
      w'.os = w.os ∧ w'.tape = w.tape ∧ w'.output = w.output ∧ w.heap.size ≤ w'.heap.size := by
  have hmax : n + m ≤ maxLen := by simp only [maxLen]; omega
  have hbytes : (n + m) * i.bytes ≤ 140737488355328 := Nat.le_trans (Nat.mul_le_mul hnm hby) (by decide)
  by_cases hm : m = 0
  · subst hm
    have hn0 : news = [] := List.eq_nil_of_length_eq_zero (by simpa using hl)
    subst hn0
    have hrun : (Builtin.append_ #[t, t] ty #[v, .slice A 0 c]).run P w = .ok v w := by
      cases q with
      | none =>
        obtain ⟨rfl, rfl⟩ := hown
        cases A <;> simp [Builtin.append_, run_underlying ht, sizeOf, typeInfo, hi, Builtin.lenOf, Builtin.firstCells, loadCells, loadCellsFrom]
      | some g =>
        obtain ⟨cap, cur, rfl, _, _, hnc, _⟩ := hown
        cases A <;> simp [Builtin.append_, run_underlying ht, sizeOf, typeInfo, hi, Builtin.lenOf, Builtin.firstCells, hnc, storeCells, loadCells, loadCellsFrom]
    exact ⟨v, w, q, hrun, hown, fun g hg j u hu => hxs g hg j u (by simpa using hu), fun _ _ _ => rfl, fun _ _ _ _ => rfl, .inl rfl, rfl, rfl, rfl, Nat.le_refl _⟩
  · obtain ⟨b, off, rfl, hnews⟩ := hA.resolve_left hm
    have hnews' : ∀ (j : Nat) (u : Value), news[j]? = some u → w.cell? ((⟨b, off, none⟩ : Addr).add j) = some u := fun j u hu => by rw [add_mid]; exact hnews j u hu
    have hlen : (xs ++ news).length = (n + m) * i.size := by rw [List.length_append, hxl, hl, Nat.add_mul]
    have grown : ∀ (old : Nat), old < n + m → OwnV (w.drew.alloc (.cells (xs.toArray ++ news.toArray ++ Builtin.zeroCells z.cells (grownCap w (n + m) old e - (n + m))) e)) base e i.size (n + m) (.slice (some ⟨w.heap.size, 0, none⟩) (n + m) (grownCap w (n + m) old e)) (some w.heap.size) ∧
        (∀ g, some w.heap.size = some g → ∀ (j : Nat) (u : Value), (xs ++ news)[j]? = some u → (w.drew.alloc (.cells (xs.toArray ++ news.toArray ++ Builtin.zeroCells z.cells (grownCap w (n + m) old e - (n + m))) e)).cell? ⟨g, j, none⟩ = some u) := by
      intro old ho
      have hge := grownCap_ge w (n + m) old e
      have hcm : grownCap w (n + m) old e ≤ maxLen := grownCap_le_maxLen w (n + m) old e hmax
      refine ⟨⟨_, _, rfl, hbase, heap_alloc_new w.drew _, hge, hcm, ?_⟩, ?_⟩
      · simp only [Array.size_append, List.size_toArray, size_zeroCells, hzs, hxl, hl, ← Nat.add_mul]
        congr 1
        omega
      · rintro g hg j u hu
        cases hg
        have hh : (w.drew.alloc (.cells (xs.toArray ++ news.toArray ++ Builtin.zeroCells z.cells (grownCap w (n + m) old e - (n + m))) e)).heap[w.heap.size]? = some (.cells (xs.toArray ++ news.toArray ++ Builtin.zeroCells z.cells (grownCap w (n + m) old e - (n + m))) e (0, 0)) := heap_alloc_new w.drew _
        rw [cell_of_row _ _ j _ e (0, 0) hh]
        have hj : j < (xs ++ news).length := (List.getElem?_eq_some_iff.1 hu).1
        rw [← Array.getElem?_toList]
        simp only [Array.toList_append]
        rw [List.getElem?_append_left (by simpa using hj)]
        exact hu
    have hold : ∀ (o : Obj) (k : Nat), k < w.heap.size → (w.drew.alloc o).heap[k]? = w.heap[k]? := fun o k hk => by
      show (w.heap.push o)[k]? = _
      rw [Array.getElem?_push, if_neg (by omega)]
    cases q with
    | none =>
      obtain ⟨rfl, rfl⟩ := hown
      have hx : xs = [] := List.eq_nil_of_length_eq_zero (by simpa using hxl)
      subst hx
      have hr := run_append_nil (P := P) w t ty e i z ht hi hz ⟨b, off, none⟩ m c news hl hnews' (by omega) (by omega) (by have hb := hbytes; simp only [Nat.zero_add] at hb; omega)
      obtain ⟨g1, g2⟩ := grown 0 (by omega)
      simp only [Nat.zero_add, List.nil_append, Array.empty_append] at g1 g2 ⊢
      exact ⟨_, _, some w.heap.size, hr, g1, g2, fun k hk _ => hold _ k hk, fun g hg => (by cases hg), .inr rfl, rfl, rfl, rfl, by simp⟩
    | some g =>
      obtain ⟨cap, cur, rfl, hbg, hg, hnc, hcm, hcs⟩ := hown
      have hglt : g < w.heap.size := (Array.getElem?_eq_some_iff.1 hg).1
      have hcur : cur.toList.take (n * i.size) = xs := by
        refine List.ext_getElem? fun j => ?_
        rw [List.getElem?_take]
        by_cases hj : j < n * i.size
        · rw [if_pos hj]
          have hj' : j < xs.length := by rw [hxl]; exact hj
          have := hxs g rfl j xs[j] (List.getElem?_eq_getElem hj')
          rw [cell_of_row w g j cur e (0, 0) hg] at this
          rw [List.getElem?_eq_getElem hj', ← this]
          simp
        · rw [if_neg hj, List.getElem?_eq_none (by rw [hxl]; omega)]
      by_cases hroom : n + m ≤ cap
      · have hfit : n * i.size + news.length ≤ cur.size := by rw [hl, hcs, ← Nat.add_mul]; exact Nat.mul_le_mul_right _ hroom
        have hr := run_append_room (P := P) w t ty e i ht hi g n cap cur hg ⟨b, off, none⟩ m c news hl hnews' h1 hroom hfit
        have hhp := setRow_heap w g cur (cur.toList.take (n * i.size) ++ news ++ cur.toList.drop (n * i.size + news.length)).toArray e (0, 0) hg
        have hcell : ∀ (j : Nat) (u : Value), (xs ++ news)[j]? = some u → (w.setRow g (cur.toList.take (n * i.size) ++ news ++ cur.toList.drop (n * i.size + news.length)).toArray).cell? ⟨g, j, none⟩ = some u := fun j u hu => by
          rw [cell_of_row _ g j _ e (0, 0) hhp]
          rw [← Array.getElem?_toList]
          simp only
          rw [hcur, List.getElem?_append_left (List.getElem?_eq_some_iff.1 hu).1]
          exact hu
        refine ⟨_, _, some g, hr, ⟨cap, _, rfl, hbg, hhp, hroom, hcm, ?_⟩, fun g' hg' => by cases hg'; exact hcell, fun k _ hk => setRow_other w g k _ (fun e => hk (by rw [e])), ?_, .inl rfl, rfl, rfl, rfl, by simp⟩
        · simp only [List.size_toArray, List.length_append, List.length_take, List.length_drop, Array.length_toList]
          omega
        · rintro g' hg' j hj
          cases hg'
          have hj' : j < xs.length := by rw [hxl]; exact hj
          rw [hcell j xs[j] (by rw [List.getElem?_append_left hj']; exact List.getElem?_eq_getElem hj'), hxs g rfl j xs[j] (List.getElem?_eq_getElem hj')]
      · have hr := run_append_grow (P := P) w t ty e i z ht hi hz ⟨g, 0, none⟩ n cap xs hxl (fun j u hu => by rw [add_mid, Nat.zero_add]; exact hxs g rfl j u hu) ⟨b, off, none⟩ m c news hl hnews' (by omega) (by omega) (growslice_fits (by omega) hbytes)
        obtain ⟨g1, g2⟩ := grown cap (by omega)
        refine ⟨_, _, some w.heap.size, hr, g1, g2, fun k hk _ => hold _ k hk, fun g' hg' j _ => ?_, .inr rfl, rfl, rfl, rfl, by simp⟩
        cases hg'
        exact World.cell?_of_block (w := w) (a := ⟨g, j, none⟩) (hold _ g hglt)
end

def delS (l : List (Loc × (TypeId × Nat))) : Option Nat → List (Loc × (TypeId × Nat))
  | some t => delL l (.s t)
  | none => l
/-- A slot gets a slice that it owns. -/
def St.putOwn (σ : St) (d sz : Nat) (rows : List (List PV)) (e : TypeId) : St := { slot := (d, .sl sz rows) :: σ.slot, box := σ.box, own := (.s d, (e, sz)) :: delL σ.own (.s d), ext := σ.ext }
def Gh.setRow (γ : Gh) (L : Loc) (q : Option Nat) : Gh := { γ with rw := fun L' => if L' = L then q else γ.rw L' }
theorem lookL_putOwn (σ : St) (d sz : Nat) (rows : List (List PV)) (e : TypeId) (L : Loc) : lookL (σ.putOwn d sz rows e).own L = if L = .s d then some (e, sz) else lookL σ.own L := by
  unfold St.putOwn
  dsimp only
  rw [lookL_cons, lookL_del]
  by_cases h : L = .s d
  · rw [if_pos h.symm, if_pos h]
  · rw [if_neg (fun e => h e.symm), if_neg h, if_neg h]
theorem avAt_putOwn {σ : St} {d sz : Nat} {rows : List (List PV)} {e : TypeId} {L : Loc} : (σ.putOwn d sz rows e).avAt L = if L = .s d then some (.sl sz rows) else σ.avAt L := by
  cases L with
  | s t =>
    simp only [St.avAt, St.putOwn, look_cons, Loc.s.injEq]
    by_cases h : d = t
    · rw [if_pos h, if_pos h.symm]
    · rw [if_neg h, if_neg (fun e => h e.symm)]
  | b k off => rw [if_neg (by simp)]; rfl
/-- The frame's rows grow: slot d gets a slice whose block is new, or is that of the owned row at s (which is not owned there any more). -/
theorem Rel.row {F : Fr} {σ : St} {γ : Gh} {a : Act} {w w1 : World} (h : Rel F σ γ a w) {d : Nat} (hd : d < F.n) {s : Option Nat} {sz : Nat} {rows : List (List PV)} {e : TypeId} {v : Value} {q : Option Nat}
    (hos : w1.os = w.os) (htp : w1.tape = w.tape) (hou : w1.output = w.output) (hsz : w.heap.size ≤ w1.heap.size)
    (hb : ∀ k, k < w.heap.size → (∀ t, s = some t → γ.rw (.s t) ≠ some k) → w1.heap[k]? = w.heap[k]?)
    (hs : ∀ t, s = some t → ∃ es rs, lookL σ.own (.s t) = some es ∧ look σ.slot t = some (.sl es.2 rs) ∧ rs.length * es.2 ≤ rows.length * sz ∧ ∀ g, γ.rw (.s t) = some g → ∀ j, j < rs.length * es.2 → w1.cell? ⟨g, j, none⟩ = w.cell? ⟨g, j, none⟩)
    (hq : ∀ g, q = some g → w.heap.size ≤ g ∨ ∃ t, s = some t ∧ γ.rw (.s t) = some g)
    (hv : OwnV w1 F.w0.heap.size e sz rows.length v q)
    (hrep : RepP (fun p => if (rdr F.R0 F.w0.heap.size σ γ w p).isSome then rdr F.R0 F.w0.heap.size σ γ w p else if q = some p.block ∧ p.off < rows.length * sz then w1.cell? p else if p.block < w.heap.size ∨ q = some p.block then none else w1.cell? p) (.sl sz rows) v) :
    Rel F ({ σ with own := delS σ.own s }.putOwn d sz rows e) (γ.setRow (.s d) q) (a.put (some d) v) w1 := by
  generalize hσ1 : ({ σ with own := delS σ.own s } : St) = σ1
  have hslot : σ1.slot = σ.slot := by rw [← hσ1]
  have hbox : σ1.box = σ.box := by rw [← hσ1]
  have hext : σ1.ext = σ.ext := by rw [← hσ1]
  have hown1 : ∀ L x, lookL σ1.own L = some x → lookL σ.own L = some x ∧ ∀ t, s = some t → L ≠ .s t := fun L x hx => by
    rw [← hσ1] at hx
    cases s with
    | none => exact ⟨hx, fun t ht => by cases ht⟩
    | some t =>
      dsimp only [delS] at hx
      rw [lookL_del] at hx
      by_cases hL : L = .s t
      · rw [if_pos hL] at hx; cases hx
      · rw [if_neg hL] at hx; exact ⟨hx, fun t' ht' => by cases ht'; exact hL⟩
  have hav1 : ∀ L, σ1.avAt L = σ.avAt L := fun L => by cases L <;> simp [St.avAt, hslot, hbox]
  have hsome : ∀ {L x}, lookL σ.own L = some x → (lookL σ.own L).isSome := fun hx => by rw [show lookL σ.own _ = _ from hx]; rfl
  -- the rows of others are not touched
  have hother : ∀ L x g, lookL σ1.own L = some x → γ.rw L = some g → w1.heap[g]? = w.heap[g]? ∧ q ≠ some g := fun L x g hx hg => by
    obtain ⟨h1, h2⟩ := hown1 L x hx
    have hlt := (h.row_lt (hsome h1) hg).1
    have hne : ∀ t, s = some t → γ.rw (.s t) ≠ some g := fun t ht e => by
      obtain ⟨es, rs, h3, _⟩ := hs t ht
      exact h2 t ht (h.rowinj L (.s t) g (hsome h1) (hsome h3) hg e)
    refine ⟨hb g hlt hne, fun e => ?_⟩
    rcases hq g e with hge | ⟨t, ht, hgt⟩
    · omega
    · exact hne t ht hgt
  have hboxes : ∀ k, (look σ.box k).isSome → w1.heap[γ.bx k]? = w.heap[γ.bx k]? ∧ q ≠ some (γ.bx k) := fun k hk => by
    have hlt := (h.box_lt hk).1
    have hne : ∀ t, s = some t → γ.rw (.s t) ≠ some (γ.bx k) := fun t ht e => by
      obtain ⟨es, rs, h3, _⟩ := hs t ht
      exact h.rowbox (.s t) k _ (hsome h3) hk e rfl
    refine ⟨hb _ hlt hne, fun e => ?_⟩
    rcases hq _ e with hge | ⟨t, ht, hgt⟩
    · omega
    · exact hne t ht hgt
  have hrw : ∀ L, L ≠ .s d → (γ.setRow (.s d) q).rw L = γ.rw L := fun L hL => by simp [Gh.setRow, hL]
  have hrwd : (γ.setRow (.s d) q).rw (.s d) = q := by simp [Gh.setRow]
  have hmut : ∀ p, ¬ σ.mut γ p → ¬ (q = some p.block ∧ rows.length * sz ≤ p.off) → ¬ (σ1.putOwn d sz rows e).mut (γ.setRow (.s d) q) p := fun p hm hp hm' => by
    rcases hm' with ⟨k, cs, hk, hpk⟩ | ⟨L, e', sz', rows', h1, h2, h3, h4⟩ | hx
    · exact hm (.inl ⟨k, cs, by rw [← hbox]; exact hk, hpk⟩)
    rotate_left
    · exact hm (.inr (.inr (by rw [← hext]; exact hx)))
    · by_cases hL : L = .s d
      · subst hL
        rw [avAt_putOwn, if_pos rfl] at h2
        rw [hrwd] at h3
        cases h2
        exact hp ⟨h3, h4⟩
      · rw [lookL_putOwn, if_neg hL] at h1
        rw [avAt_putOwn, if_neg hL, hav1] at h2
        rw [hrw L hL] at h3
        exact hm (.inr (.inl ⟨L, e', sz', rows', (hown1 L _ h1).1, h2, h3, h4⟩))
  have hcellkeep : ∀ p v, F.w0.heap.size ≤ p.block → ¬ σ.mut γ p → w.cell? p = some v → w1.cell? p = some v ∧ ¬ (q = some p.block ∧ rows.length * sz ≤ p.off) := fun p v hB hm hc => by
    have hlt := Rel.cell_lt hc
    by_cases hp : ∃ t, s = some t ∧ γ.rw (.s t) = some p.block
    · obtain ⟨t, ht, hg⟩ := hp
      obtain ⟨es, rs, h3, h4, h5, h6⟩ := hs t ht
      have hoff : p.off < rs.length * es.2 := by
        rcases Nat.lt_or_ge p.off (rs.length * es.2) with h7 | h7
        · exact h7
        · exact absurd (.inr (.inl ⟨.s t, es.1, es.2, rs, h3, h4, hg, h7⟩)) hm
      have hsp : p = ⟨p.block, p.off, none⟩ := by
        obtain ⟨pb, po, ps⟩ := p
        cases ps with
        | none => rfl
        | some x => simp [World.cell?] at hc; split at hc <;> simp at hc
      refine ⟨?_, fun e => by omega⟩
      rw [hsp, h6 p.block hg p.off hoff, ← hsp]
      exact hc
    · have hne : ∀ t, s = some t → γ.rw (.s t) ≠ some p.block := fun t ht hg => hp ⟨t, ht, hg⟩
      refine ⟨(World.cell?_of_block (w := w) (hb p.block hlt hne)).trans hc, fun e => ?_⟩
      rcases hq _ e.1 with hge | ⟨t, ht, hgt⟩
      · omega
      · exact hne t ht hgt
  have hle : ∀ p v, rdr F.R0 F.w0.heap.size σ γ w p = some v → rdr F.R0 F.w0.heap.size (σ1.putOwn d sz rows e) (γ.setRow (.s d) q) w1 p = some v :=
    rdr_le fun p v hB hm hc => by
      obtain ⟨h1, h2⟩ := hcellkeep p v hB hm hc
      exact ⟨hmut p hm h2, h1⟩
  have hblk : ∀ b, σ.ext.foot b ∨ σ.ext.froz b → w1.heap[b]? = w.heap[b]? ∧ q ≠ some b := fun b hbf => by
    obtain ⟨h1, h2, h3, h4⟩ := h.extf b hbf
    have hne : ∀ t, s = some t → γ.rw (.s t) ≠ some b := fun t ht => by
      obtain ⟨es, rs, h5, _⟩ := hs t ht
      exact h4 (.s t) (hsome h5)
    refine ⟨hb b h2 hne, fun e => ?_⟩
    rcases hq b e with hge | ⟨t, ht, hgt⟩
    · omega
    · exact hne t ht hgt
  have hexth : (σ1.putOwn d sz rows e).ext.holds w1 := by
    show σ1.ext.holds w1
    rw [hext]
    exact σ.ext.stable (fun b hbf => (hblk b hbf).1) h.exth
  have hextf : ∀ b, (σ1.putOwn d sz rows e).ext.foot b ∨ (σ1.putOwn d sz rows e).ext.froz b → F.w0.heap.size ≤ b ∧ b < w1.heap.size ∧ (∀ k, (look (σ1.putOwn d sz rows e).box k).isSome → (γ.setRow (.s d) q).bx k ≠ b) ∧ (∀ L, (lookL (σ1.putOwn d sz rows e).own L).isSome → (γ.setRow (.s d) q).rw L ≠ some b) := fun b hbf => by
    have hbf' : σ.ext.foot b ∨ σ.ext.froz b := by rw [← hext]; exact hbf
    obtain ⟨h1, h2, h3, h4⟩ := h.extf b hbf'
    refine ⟨h1, by omega, fun k hk => h3 k (by rw [← hbox]; exact hk), fun L hL => ?_⟩
    by_cases hLd : L = .s d
    · rw [hLd, hrwd]; exact (hblk b hbf').2
    · obtain ⟨x, hx⟩ := Option.isSome_iff_exists.1 hL
      rw [lookL_putOwn, if_neg hLd] at hx
      rw [hrw L hLd]
      exact h4 L (hsome (hown1 L _ hx).1)
  have hd' : d < a.tmps.size := by rw [h.size]; exact hd
  refine ⟨by rw [defers_put]; exact h.defers, by rw [size_put]; exact h.size, h.below.trans ⟨hos, htp, hou, hsz, fun k hk => hb k (Nat.lt_of_lt_of_le hk h.base) fun t ht e => by
      obtain ⟨es, rs, h3, _⟩ := hs t ht
      have := (h.row_lt (hsome h3) e).2
      omega⟩, h.r0, fun t y hy => ?_, fun k cs hk => ?_, fun k k' hk hk' => ?_, fun L e' sz' hL => ?_, fun L L' g hL hL' hg hg' => ?_, fun L k g hL hk hg => ?_, hexth, hextf, h.small, fun k hk => h.dyn k (by rw [← hbox]; exact hk), (show σ1.ext.laid F.w0 from hext ▸ h.laid), (show ∀ R, σ.ext.reads R → σ1.ext.reads R from fun R h => by rw [hext]; exact h) _ (σ.ext.rmono hle h.extr)⟩
  · simp only [St.putOwn, look_cons] at hy
    rw [getD_put hd']
    by_cases hdt : d = t
    · rw [if_pos hdt] at hy ⊢
      cases hy
      refine ⟨RepP.mono (fun p v hp => ?_) hrep, fun k hk => by cases hk⟩
      by_cases hr : (rdr F.R0 F.w0.heap.size σ γ w p).isSome
      · rw [if_pos hr] at hp; exact hle p v hp
      · rw [if_neg hr] at hp
        have hnB : ¬ p.block < F.w0.heap.size := fun hB => by
          have hplt : p.block < w.heap.size := Nat.lt_of_lt_of_le hB h.base
          by_cases hqp : q = some p.block ∧ p.off < rows.length * sz
          · rw [hqp.1] at hv
            have := hv.lt.1
            omega
          · rw [if_neg hqp, if_pos (.inl hplt)] at hp; cases hp
        unfold rdr
        rw [if_neg hnB]
        by_cases hqp : q = some p.block ∧ p.off < rows.length * sz
        · rw [if_pos hqp] at hp
          rw [if_neg ?_]
          · exact hp
          · rintro (⟨k, cs, hk, hpk⟩ | ⟨L, e', sz', rows', h1, h2, h3, h4⟩ | hx)
            rotate_left 2
            · exact (hblk p.block (.inl (by rw [← hext]; exact hx))).2 hqp.1
            · have hk' : look σ.box k = some cs := by rw [← hbox]; exact hk
              exact (hboxes k (by rw [hk']; rfl)).2 (by rw [hqp.1, hpk]; rfl)
            · by_cases hL : L = .s d
              · subst hL
                rw [avAt_putOwn, if_pos rfl] at h2
                cases h2
                omega
              · rw [lookL_putOwn, if_neg hL] at h1
                rw [hrw L hL] at h3
                exact (hother L _ _ h1 h3).2 hqp.1
        · rw [if_neg hqp] at hp
          by_cases hpp : p.block < w.heap.size ∨ q = some p.block
          · rw [if_pos hpp] at hp; cases hp
          · rw [if_neg hpp] at hp
            rw [if_neg ?_]
            · exact hp
            · refine hmut p ?_ (fun e => hpp (.inr e.1))
              rintro (⟨k, cs, hk, hpk⟩ | ⟨L, e', sz', rows', h1, h2, h3, h4⟩ | hx)
              rotate_left 2
              · exact hpp (.inl (h.extf p.block (.inl hx)).2.1)
              · have := (h.box_lt (k := k) (by rw [hk]; rfl)).1
                exact hpp (.inl (by omega))
              · have := (h.row_lt (hsome h1) h3).1
                exact hpp (.inl this)
    · rw [if_neg hdt, hslot] at hy
      rw [if_neg hdt]
      obtain ⟨h1, h2⟩ := h.slots t y hy
      exact ⟨h1.mono hle (fun _ _ => rfl), fun k hk => by
        show (look σ1.box k).isSome
        rw [hbox]; exact h2 k hk⟩
  · have hk' : look σ.box k = some cs := by rw [← hbox]; exact hk
    obtain ⟨us, ty, h1, h2, h3⟩ := h.boxes k cs hk'
    exact ⟨us, ty, (hboxes k (by rw [hk']; rfl)).1.trans h1, h2, h3.mono hle⟩
  · exact h.boxinj k k' (by rw [← hbox]; exact hk) (by rw [← hbox]; exact hk')
  · by_cases hLd : L = .s d
    · subst hLd
      rw [lookL_putOwn, if_pos rfl] at hL
      cases hL
      exact ⟨rows, v, by rw [avAt_putOwn, if_pos rfl], by simp only [valAt, getD_put hd', if_pos], by rw [hrwd]; exact hv⟩
    · rw [lookL_putOwn, if_neg hLd] at hL
      obtain ⟨hL0, _⟩ := hown1 L _ hL
      obtain ⟨rows', v', h1, h2, h3⟩ := h.owns L e' sz' hL0
      refine ⟨rows', v', by rw [avAt_putOwn, if_neg hLd, hav1]; exact h1, ?_, by rw [hrw L hLd]; exact h3.keep fun g hg => (hother L _ g hL hg).1⟩
      cases L with
      | s t =>
        have : d ≠ t := fun e => hLd (by rw [e])
        simp only [valAt, getD_put hd', if_neg this]
        exact h2
      | b k off =>
        have hk : (look σ.box k).isSome := by
          cases hk : look σ.box k with
          | none => simp [St.avAt, hk] at h1
          | some cs => rfl
        exact (World.cell?_of_block (w := w) (a := ⟨γ.bx k, off, none⟩) (hboxes k hk).1).trans h2
  · obtain ⟨x, hx⟩ := Option.isSome_iff_exists.1 hL
    obtain ⟨x', hx'⟩ := Option.isSome_iff_exists.1 hL'
    by_cases h1 : L = .s d <;> by_cases h2 : L' = .s d
    · rw [h1, h2]
    · subst h1
      rw [lookL_putOwn, if_neg h2] at hx'
      rw [hrwd] at hg
      rw [hrw L' h2] at hg'
      exact absurd hg (hother L' _ g hx' hg').2
    · subst h2
      rw [lookL_putOwn, if_neg h1] at hx
      rw [hrwd] at hg'
      rw [hrw L h1] at hg
      exact absurd hg' (hother L _ g hx hg).2
    · rw [lookL_putOwn, if_neg h1] at hx
      rw [lookL_putOwn, if_neg h2] at hx'
      rw [hrw L h1] at hg
      rw [hrw L' h2] at hg'
      exact h.rowinj L L' g (hsome (hown1 L _ hx).1) (hsome (hown1 L' _ hx').1) hg hg'
  · obtain ⟨x, hx⟩ := Option.isSome_iff_exists.1 hL
    have hk' : (look σ.box k).isSome := by rw [← hbox]; exact hk
    by_cases h1 : L = .s d
    · subst h1
      rw [hrwd] at hg
      exact fun e => (hboxes k hk').2 (by rw [hg, e]; rfl)
    · rw [lookL_putOwn, if_neg h1] at hx
      rw [hrw L h1] at hg
      exact h.rowbox L k g (hsome (hown1 L _ hx).1) hk' hg

end Av
end Go.Proofs.YticnppnejafhdaaGreatDoor
/- Abstract states: what an operation without effects yields, and that the machine yields it. Generic. -/
namespace Go.Proofs.YticnppnejafhdaaGreatDoor
open Go.RowKit
namespace Av

theorem RepA.free {R : Reader} {bx bx' : Nat → Nat} {x : AV} {u : Value} (hx : x.refs = []) (h : RepA R bx x u) : RepA R bx' x u :=
  h.mono (fun _ _ hp => hp) (fun k hk => by rw [hx] at hk; cases hk)

/-- A call's result: what it is; whether the caller owns the row (elements of that type). -/
structure FRes where
  av : AV
  own : Option TypeId := none
def fresh (R : Reader) (w w' : World) (q : Option Nat) (m : Nat) : Reader := fun p => if p.block < w.heap.size then R p else if q = some p.block ∧ m ≤ p.off then none else w'.cell? p
def ResRep (R : Reader) (w w' : World) (res : FRes) (u : Value) : Prop :=
  match res.own, res.av with
  | some e, .sl sz rows => ∃ q, OwnV w' w.heap.size e sz rows.length u q ∧ RepP (fresh R w w' q (rows.length * sz)) (.sl sz rows) u
  | some _, _ => False
  | none, x => x.refs = [] ∧ RepA (fresh R w w' none 0) (fun _ => 0) x u
inductive RepAL (R : Reader) : List AV → List Value → Prop
  | nil : RepAL R [] []
  | cons {x : AV} {u : Value} {xs : List AV} {us : List Value} (h : RepA R (fun _ => 0) x u) (hr : x.refs = []) (t : RepAL R xs us) : RepAL R (x :: xs) (u :: us)
theorem RepAL.append {R : Reader} {ps qs : List AV} {us vs : List Value} (h : RepAL R ps us) (h' : RepAL R qs vs) : RepAL R (ps ++ qs) (us ++ vs) := by
  induction h with
  | nil => exact h'
  | cons h hr _ ih => exact .cons h hr ih
def Enters (P : Program) (f : FuncId) : Prop := ∃ fn c, P.funcs[f]? = some fn ∧ (fn.name == "runtime.NumGoroutine") = false ∧ fn.body = some c
/-- Called with such arguments the function returns this, and leaves what was there. -/
def FnOK (P : Program) (f : FuncId) (args : List AV) (res : FRes) : Prop :=
  Enters P f ∧ ∀ (w : World) (R : Reader), (∀ p v, R p = some v → w.cell? p = some v) → ∀ us, RepAL R args us →
    Calls P f us.toArray w fun e w' => ∃ u, e = .returned u ∧ Below w.heap.size w w' ∧ ResRep R w w' res u

structure HR where
  av : AV
  box : Option (List PV) := none
  own : Option TypeId := none
def St.res (σ : St) (d : Nat) (r : HR) : St :=
  match r.own with
  | some e => match r.av with
    | .sl sz rows => σ.putOwn d sz rows e
    | x => σ.put d x
  | none => match r.box with
    | some cs => (σ.addBox d cs).put d r.av
    | none => σ.put d r.av

def evo (g : Nat → Option AV) : Operand → Option AV
  | .tmp t => g t
  | .const v => some (.v v)
  | .func f => some (.clo f [])
  | .global _ => none
def evos (g : Nat → Option AV) : List Operand → Option (List AV)
  | [] => some []
  | x :: l => match evo g x, evos g l with
    | some v, some vs => some (v :: vs)
    | _, _ => none
def avCells : AV → Option (List PV)
  | .v u => if u.oneCell' = true then some [.v u] else none
  | .sl sz rows => some [.sl sz rows]
  | .agg xs => some xs
  | _ => none
def snapCaps (bx : Nat → Option (List PV)) : List (Nat × Nat) → Option (List (List PV))
  | [] => some []
  | c :: l => match bx c.1, snapCaps bx l with
    | some cs, some r => some (cs.drop c.2 :: r)
    | _, _ => none
/-- A datum as a callee takes it: pointers into boxes are pointers to what these hold now. -/
def snap (bx : Nat → Option (List PV)) : AV → Option AV
  | .ref k off => (bx k).map fun cs => .ept (cs.drop off)
  | .clo f caps => (snapCaps bx caps).map (.fnv f)
  | .tup _ => none
  | x => some x
def snaps (bx : Nat → Option (List PV)) : List AV → Option (List AV)
  | [] => some []
  | x :: l => match snap bx x, snaps bx l with
    | some v, some vs => some (v :: vs)
    | _, _ => none
def AV.lit : AV → Bool
  | .v _ => true
  | .tup vs => vs.all fun | .c (.v _) => true | _ => false
  | _ => false
def capRefs (g : Nat → Option AV) : List Operand → Option (List (Nat × Nat))
  | [] => some []
  | x :: l => match evo g x, capRefs g l with
    | some (.ref k off), some r => some ((k, off) :: r)
    | _, _ => none

def abin (op : BinOp) : Value → Value → Option Value
  | .int k a, .int k' b => if k = k' then (match op with
    | .add => some (.int k (k.wrap (a + b)))
    | .sub => some (.int k (k.wrap (a - b)))
    | .mul => some (.int k (k.wrap (a * b)))
    | .quo => if b = 0 then none else some (.int k (k.wrap (a.tdiv b)))
    | .rem => if b = 0 then none else some (.int k (a.tmod b))
    | .eql => some (.bool (a == b))
    | .neq => some (.bool (a != b))
    | .lss => some (.bool (decide (a < b)))
    | .leq => some (.bool (decide (a ≤ b)))
    | .gtr => some (.bool (decide (b < a)))
    | .geq => some (.bool (decide (b ≤ a)))
    | .shr => if b = 1 then some (.int k (a / 2)) else none
    | _ => none) else none
  | .string a, .string b => match op with
    | .eql => some (.bool (a.toList == b.toList))
    | .neq => some (.bool !(a.toList == b.toList))
    | .lss => some (.bool (Op.bytesLess a.toList b.toList))
    | .add => if a.size + b.size ≤ 9223372036854775807 then some (.string (a ++ b)) else none
    | _ => none
  | _, _ => none
def aun (op : UnOp) : Value → Option Value
  | .bool b => match op with
    | .not => some (.bool !b)
    | _ => none
  | .int k a => match op with
    | .neg => some (.int k (k.wrap (0 - a)))
    | _ => none
  | _ => none
def loadK (P : Program) (T : TypeId) (row : List PV) (K : HR → Prop) : Prop :=
  ∃ d n, P.underlying T = some d ∧ (P.info? T).map (·.size) = some n ∧
    if d.isRow = true then n ≤ row.length ∧ K ⟨.agg (row.take n), none, none⟩ else ∃ p, row[0]? = some p ∧ K ⟨p.av, none, none⟩
def bound (g : Nat → Option AV) (dflt : Nat) : Option Operand → Nat → Prop
  | none, n => n = dflt
  | some x, n => ∃ k i, evo g x = some (.v (.int k i)) ∧ 0 ≤ i ∧ n = i.toNat
theorem arr_of {α : Type} {a : Array α} {l : List α} (h : a.toList = l) : a = l.toArray := by rw [← h]
def hopB (P : Program) (g : Nat → Option AV) (b : Builtin) (args : Array Operand) (ats : Array TypeId) (K : HR → Prop) : Prop :=
  match b with
  | .len => ∃ x T, args.toList = [x] ∧ ats.toList = [T] ∧ ((∃ sz rows e, evo g x = some (.sl sz rows) ∧ P.underlying T = some (.slice e) ∧ K ⟨.v (.int .i64 rows.length), none, none⟩) ∨
      (∃ s, evo g x = some (.v (.string s)) ∧ P.underlying T = some .string ∧ K ⟨.v (.int .i64 s.size), none, none⟩) ∨
      (∃ A n c e, evo g x = some (.v (.slice A n c)) ∧ P.underlying T = some (.slice e) ∧ K ⟨.v (.int .i64 n), none, none⟩))
  | .max => ∃ x y k u v, args.toList = [x, y] ∧ evo g x = some (.v (.int k u)) ∧ evo g y = some (.v (.int k v)) ∧ K ⟨.v (.int k (if u < v then v else u)), none, none⟩
  | .min => ∃ x y k u v, args.toList = [x, y] ∧ evo g x = some (.v (.int k u)) ∧ evo g y = some (.v (.int k v)) ∧ K ⟨.v (.int k (if v < u then v else u)), none, none⟩
  | _ => False
def hopF (P : Program) (g : Nat → Option AV) (bx : Nat → Option (List PV)) (f : Operand) (args : Array Operand) (K : HR → Prop) : Prop :=
  ∃ fv fid caps avs avs' res, evo g f = some fv ∧ snap bx fv = some (.fnv fid caps) ∧ evos g args.toList = some avs ∧ snaps bx avs = some avs' ∧ FnOK P fid (avs' ++ caps.map AV.ept) res ∧
    (((fv :: avs).all fun x => x.refs.isEmpty) = true ∨ (res.av.lit = true ∧ res.own = none)) ∧ K ⟨res.av, none, res.own⟩
def hopCall (P : Program) (g : Nat → Option AV) (bx : Nat → Option (List PV)) (c : Call) (K : HR → Prop) : Prop :=
  match c.callee with
  | .builtin b => hopB P g b c.args c.argTypes K
  | .value f => hopF P g bx f c.args K
  | .invoke _ _ => False
/-- A pointer that is not nil. -/
def ptrB : AV → Bool
  | .ref _ _ => true
  | .ept _ => true
  | .v (.pointer (some _)) => true
  | _ => false
/-- The operation yields such a result: in slots g and boxes bx. -/
def hop (P : Program) (g : Nat → Option AV) (bx : Nat → Option (List PV)) (o : Oper) (K : HR → Prop) : Prop :=
  match o.op with
  | .move x | .assign x => ∃ v, evo g x = some v ∧ K ⟨v, none, none⟩
  | .pick c a b => ∃ t v, evo g c = some (.v (.bool t)) ∧ evo g (if t = true then a else b) = some v ∧ K ⟨v, none, none⟩
  | .box _ x => ∃ v cs d, evo g x = some v ∧ avCells v = some cs ∧ o.dst = some d ∧ bx d = none ∧ K ⟨.ref d 0, some cs, none⟩
  | .alloc T => ∃ z d, (P.info? T).map (·.zero) = some (some z) ∧ (z.cells.toList.all (·.oneCell')) = true ∧ o.dst = some d ∧ bx d = none ∧ K ⟨.ref d 0, some (z.cells.toList.map .v), none⟩
  | .load T x => match evo g x with
    | some (.ref k off) => ∃ cs, bx k = some cs ∧ loadK P T (cs.drop off) K
    | some (.ept row) => loadK P T row K
    | _ => False
  | .fieldAddr T x i => ∃ fs f n, P.underlying T = some (.struct fs) ∧ fs[i]? = some f ∧ (P.info? f.type).map (·.size) = some n ∧ 0 < n ∧ (match evo g x with
    | some (.ref k off) => K ⟨.ref k (off + f.offset), none, none⟩
    | some (.ept row) => K ⟨.ept (row.drop f.offset), none, none⟩
    | _ => False)
  | .field T x i => ∃ fs f d n xs, P.underlying T = some (.struct fs) ∧ fs[i]? = some f ∧ P.underlying f.type = some d ∧ (P.info? f.type).map (·.size) = some n ∧ evo g x = some (.agg xs) ∧
      if d.isRow = true then K ⟨.agg ((xs.drop f.offset).take n), none, none⟩ else ∃ p, xs[f.offset]? = some p ∧ K ⟨p.av, none, none⟩
  | .indexAddr T x ix => ∃ k i, evo g ix = some (.v (.int k i)) ∧ 0 ≤ i ∧ (match P.underlying T with
    | some (.slice e) => ∃ sz rows row, evo g x = some (.sl sz rows) ∧ (P.info? e).map (·.size) = some sz ∧ rows[i.toNat]? = some row ∧ K ⟨.ept row, none, none⟩
    | some (.array n e) => ∃ sz, (P.info? e).map (·.size) = some sz ∧ i < n ∧ (match evo g x with
      | some (.ref k off) => K ⟨.ref k (off + i.toNat * sz), none, none⟩
      | some (.ept row) => K ⟨.ept (row.drop (i.toNat * sz)), none, none⟩
      | _ => False)
    | _ => False)
  | .slice T x lo hi mx => mx = none ∧ match P.underlying T with
    | some (.slice e) => ∃ sz rows l h, evo g x = some (.sl sz rows) ∧ (P.info? e).map (·.size) = some sz ∧ bound g 0 lo l ∧ bound g rows.length hi h ∧ l ≤ h ∧ h ≤ rows.length ∧ K ⟨.sl sz ((rows.take h).drop l), none, none⟩
    | some .string => ∃ s l h, evo g x = some (.v (.string s)) ∧ bound g 0 lo l ∧ bound g s.size hi h ∧ l ≤ h ∧ h ≤ s.size ∧ K ⟨.v (.string (s.extract l h)), none, none⟩
    | _ => False
  | .index T x ix => ∃ k i s c, evo g ix = some (.v (.int k i)) ∧ 0 ≤ i ∧ P.underlying T = some .string ∧ evo g x = some (.v (.string s)) ∧ s.data[i.toNat]? = some c ∧ K ⟨.v (.int .u8 (c.toNat : Nat)), none, none⟩
  | .binOp op _ x y _ => ∃ u v r, evo g x = some (.v u) ∧ evo g y = some (.v v) ∧ abin op u v = some r ∧ K ⟨.v r, none, none⟩
  | .unOp op _ x => ∃ u r, evo g x = some (.v u) ∧ aun op u = some r ∧ K ⟨.v r, none, none⟩
  | .makeInterface T x => ∃ u, evo g x = some (.v u) ∧ P.concrete T = true ∧ K ⟨.v (.iface T u), none, none⟩
  | .makeFunc fn first caps => ∃ f cs, fn = .func f ∧ first = #[] ∧ capRefs g caps.toList = some cs ∧ K ⟨.clo f cs, none, none⟩
  | .extract x i => ∃ vs c, evo g x = some (.tup vs) ∧ vs[i]? = some c ∧ K ⟨c.av, none, none⟩
  | .call c => hopCall P g bx c K
  | .nilCheck x => ∃ v, evo g x = some v ∧ ptrB v = true ∧ K ⟨v, none, none⟩
  | _ => False

end Av
end Go.Proofs.YticnppnejafhdaaGreatDoor
/- Abstract states: the machine yields what an operation yields abstractly. Generic. -/
namespace Go.Proofs.YticnppnejafhdaaGreatDoor
open Go.RowKit
namespace Av

theorem Rel.cell {F : Fr} {σ : St} {γ : Gh} {a : Act} {w : World} (h : Rel F σ γ a w) {p : Addr} {v : Value} (hp : rdr F.R0 F.w0.heap.size σ γ w p = some v) : w.cell? p = some v := by
  unfold rdr at hp
  by_cases hB : p.block < F.w0.heap.size
  · rw [if_pos hB] at hp
    exact (h.below.cell hB).trans (h.r0 _ _ hp)
  · rw [if_neg hB] at hp
    by_cases hm : σ.mut γ p
    · rw [if_pos hm] at hp; cases hp
    · rw [if_neg hm] at hp; exact hp
theorem evo_ok {F : Fr} {σ : St} {γ : Gh} {a : Act} {w : World} (h : Rel F σ γ a w) {g : Nat → Option AV} {x : Operand} {v : AV} (hg : ∀ t y, x = .tmp t → g t = some y → look σ.slot t = some y) (he : evo g x = some v) :
    RepA (rdr F.R0 F.w0.heap.size σ γ w) γ.bx v (a.eval x) ∧ ∀ k ∈ v.refs, (look σ.box k).isSome := by
  cases x with
  | tmp t => exact h.slots t v (hg t v rfl he)
  | const u => cases he; exact ⟨rfl, fun k hk => by cases hk⟩
  | func f => cases he; exact ⟨rfl, fun k hk => by cases hk⟩
  | global g => cases he
section
variable {P : Program}
theorem info_some {α : Type} {f : TypeInfo → α} {T : TypeId} {x : α} (h : (P.info? T).map f = some x) : ∃ i, P.info? T = some i ∧ f i = x := by
  cases hi : P.info? T with
  | none => rw [hi] at h; cases h
  | some i => rw [hi] at h; exact ⟨i, rfl, by simpa using h⟩
theorem run_load_one (w : World) (b o : Nat) (T : TypeId) (d : TypeDesc) (v : Value) (hc : w.cell? ⟨b, o, none⟩ = some v) (hu : P.underlying T = some d) (hd : d.isRow = false) :
    (Instr.loadAt T (.pointer (some ⟨b, o, none⟩))).run P w = .ok v w := by
  have hagg : (isAgg T).run P w = .ok false w := by
    unfold isAgg
    rw [Sem.run_bind, run_underlying hu w]
    cases d <;> simp_all
  simp [Instr.loadAt, Instr.sureAddr, loadVar, Sem.run_bind, hagg, load, Sem.run, hc]
end
/-- Where the operation's value comes from. -/
def src (P : Program) (g : Nat → Option AV) (o : Oper) : Option Loc :=
  match o.op with
  | .move (.tmp s) | .assign (.tmp s) => some (.s s)
  | .load T (.tmp p) => match g p, P.underlying T with
    | some (.ref k off), some d => if d.isRow = true then none else some (.b k off)
    | _, _ => none
  | _ => none
section
variable {P : Program} {F : Fr} {σ : St} {γ : Gh} {a : Act} {w : World} {o : Oper} {Q : Exit → Act → World → Prop} {d : Nat}
/-- One operation's step. -/
def Stp (P : Program) (F : Fr) (σ : St) (γ : Gh) (a : Act) (w : World) (o : Oper) (d : Nat) (σ' : St) : Act → World → Prop := fun a' w' =>
  ∃ γ' u, a' = a.put (some d) u ∧ Below w.heap.size w w' ∧ (∀ k, (look σ.box k).isSome → γ'.bx k = γ.bx k) ∧ Rel F σ' γ' a' w' ∧
    ∀ g S, (∀ t y, Operand.tmp t ∈ o.op.operands.toList → g t = some y → look σ.slot t = some y) → src P g o = some S → valAt a w γ S = some u ∨ valAt a w γ S = none
theorem src_val (h : Rel F σ γ a w) {g : Nat → Option AV} {S : Loc} {u : Value} (hg : ∀ t y, Operand.tmp t ∈ o.op.operands.toList → g t = some y → look σ.slot t = some y) (hs : src P g o = some S) (hrun : (execOp a.eval o).run P w = .ok (.value u) w) :
    valAt a w γ S = some u ∨ valAt a w γ S = none := by
  unfold src at hs
  split at hs
  · rename_i s ho
    cases hs
    simp only [execOp, ho, Sem.run_pure, Result.ok.injEq, Next.value.injEq, and_true] at hrun
    exact .inl (by rw [← hrun]; rfl)
  · rename_i s ho
    cases hs
    simp only [execOp, ho, Sem.run_pure, Result.ok.injEq, Next.value.injEq, and_true] at hrun
    exact .inl (by rw [← hrun]; rfl)
  · rename_i T p ho
    split at hs
    · rename_i k off d0 h1 h2
      split at hs
      · cases hs
      · rename_i hrow
        cases hs
        have h3 := (h.slots p _ (hg p _ (by rw [ho]; simp [Op.operands]) h1)).1
        have h4 : a.eval (.tmp p) = .pointer (some ⟨γ.bx k, off, none⟩) := h3
        show w.cell? ⟨γ.bx k, off, none⟩ = some u ∨ w.cell? ⟨γ.bx k, off, none⟩ = none
        cases hc : w.cell? ⟨γ.bx k, off, none⟩ with
        | none => exact .inr rfl
        | some v =>
          left
          have h5 := run_load_one (P := P) w (γ.bx k) off T d0 v hc h2 (by simpa using hrow)
          simp only [execOp, ho, h4, Sem.run_bind, h5, Result.andThen_ok, Sem.run_pure, Result.ok.injEq, Next.value.injEq, and_true] at hrun
          rw [hrun]
    · cases hs
  · cases hs
theorem pure_ok (h : Rel F σ γ a w) (hd : o.dst = some d) (hdn : d < F.n) {x : AV} {u : Value} (hrun : (execOp a.eval o).run P w = .ok (.value u) w) (hx : RepA (rdr F.R0 F.w0.heap.size σ γ w) γ.bx x u) (hr : ∀ k ∈ x.refs, (look σ.box k).isSome) :
    o.wp P a w (Stp P F σ γ a w o d (σ.res d ⟨x, none, none⟩)) Q := by
  unfold Oper.wp
  rw [hrun]
  show Stp P F σ γ a w o d (σ.put d x) (a.put o.dst u) w
  rw [hd]
  exact ⟨γ, u, rfl, Below.refl _ _, fun _ _ => rfl, h.put hdn hx hr, fun g S hg hs => src_val h hg hs hrun⟩
theorem box_ok (h : Rel F σ γ a w) (hd : o.dst = some d) (hdn : d < F.n) (hb : look σ.box d = none) {cs : List PV} {us : List Value} {ty : TypeId} (hsrc : ∀ g, src P g o = none)
    (hrun : (execOp a.eval o).run P w = .ok (.value (.pointer (some ⟨w.heap.size, 0, none⟩))) (w.alloc (.cells us.toArray ty))) (hl : RepL (rdr F.R0 F.w0.heap.size σ γ w) cs us) :
    o.wp P a w (Stp P F σ γ a w o d (σ.res d ⟨.ref d 0, some cs, none⟩)) Q := by
  unfold Oper.wp
  rw [hrun]
  show Stp P F σ γ a w o d ((σ.addBox d cs).put d (.ref d 0)) (a.put o.dst _) _
  rw [hd]
  refine ⟨_, _, rfl, (Below.refl _ _).alloc (Nat.le_refl _) _, fun k hk => ?_, (h.addBox (Nat.lt_of_lt_of_le hdn h.small) hb hl ty).put hdn ?_ ?_, fun g S hg hs => by rw [hsrc g] at hs; cases hs⟩
  · have : k ≠ d := fun e => by subst e; rw [hb] at hk; cases hk
    simp [Gh.addBox, this]
  · show _ = Value.pointer (some ⟨(γ.addBox d w.heap.size).bx d, 0, none⟩)
    simp [Gh.addBox]
  · intro k hk
    simp only [AV.refs, List.mem_singleton] at hk
    subst hk
    show (look ((k, cs) :: σ.box) k).isSome
    simp [look_cons]
end
theorem avCells_ok {R : Reader} {bx : Nat → Nat} {x : AV} {u : Value} {cs : List PV} (hx : RepA R bx x u) (hc : avCells x = some cs) : RepL R cs u.cells.toList := by
  cases x with
  | v y =>
    simp only [avCells] at hc
    by_cases h1 : y.oneCell' = true
    · rw [if_pos h1] at hc
      cases hc
      rw [show u = y from hx]
      have : y.cells = #[y] := by cases y <;> first | rfl | cases h1
      rw [this]
      exact .cons (.v y h1) .nil
    · rw [if_neg h1] at hc; cases hc
  | sl sz rows =>
    cases hc
    have hx' : RepP R (.sl sz rows) u := hx
    have h1 := hx'.one
    have : u.cells = #[u] := by cases u <;> first | rfl | cases h1
    rw [this]
    exact .cons hx' .nil
  | agg xs =>
    cases hc
    obtain ⟨us, rfl, h1⟩ := hx
    simpa [Value.cells] using h1
  | tup vs => cases hc
  | ref k off => cases hc
  | ept row => cases hc
  | clo f caps => cases hc
  | fnv f caps => cases hc
section
variable {P : Program}
/-- What lies behind a pointer is loaded. -/
theorem loadK_ok {T : TypeId} {row : List PV} {K : HR → Prop} (h : loadK P T row K) : ∃ x, K ⟨x, none, none⟩ ∧ x.refs = [] ∧
    ∀ (R : Reader) (bx : Nat → Nat) (w : World) (b off : Nat) (us : List Value), RepL R row us → (∀ (i : Nat) (u : Value), us[i]? = some u → w.cell? ⟨b, off + i, none⟩ = some u) →
      ∃ v, (Instr.loadAt T (.pointer (some ⟨b, off, none⟩))).run P w = .ok v w ∧ RepA R bx x v := by
  obtain ⟨d, n, hu, hn, hk⟩ := h
  by_cases hd : d.isRow = true
  · rw [if_pos hd] at hk
    refine ⟨_, hk.2, rfl, fun R bx w b off us hr hc => ?_⟩
    have hl := hr.length
    refine ⟨.agg (us.take n).toArray, ?_, us.take n, rfl, hr.take n⟩
    refine run_loadAt_mid w b off T (us.take n) d (fun j v hv => ?_) hu hd ?_
    · rw [List.getElem?_take] at hv
      split at hv
      · exact hc j v hv
      · cases hv
    · rw [hn, List.length_take, hl, Nat.min_eq_left hk.1]
  · rw [if_neg hd] at hk
    obtain ⟨p, hp, hk⟩ := hk
    have href : p.av.refs = [] := by cases p <;> rfl
    refine ⟨_, hk, href, fun R bx w b off us hr hc => ?_⟩
    obtain ⟨u, hu0, hpu⟩ := hr.get hp
    exact ⟨u, run_load_one w b off T d u (by have := hc 0 u hu0; simpa using this) hu (by simpa using hd), hpu.av⟩
theorem run_field_at (w : World) (T : TypeId) (fs : Array Field) (f : Field) (i n b o : Nat) (hu : P.underlying T = some (.struct fs)) (hf : fs[i]? = some f) (hn : (P.info? f.type).map (·.size) = some (n + 1)) :
    (Instr.fieldAt T (.pointer (some ⟨b, o, none⟩)) i).run P w = .ok (.pointer (some ⟨b, o + f.offset, none⟩)) w := by
  obtain ⟨j, hj, hs⟩ := info_some hn
  simp [Instr.fieldAt, Sem.run_bind, run_underlying hu, hf, Instr.sureAddr, fieldPlace, sizeOf, typeInfo, hj, hs, Addr.add_lit]
theorem run_part (w : World) (T : TypeId) (d : TypeDesc) (n : Nat) (us : List Value) (off : Nat) (hu : P.underlying T = some d) (hn : (P.info? T).map (·.size) = some n) :
    (d.isRow = true → (part T us.toArray off).run P w = .ok (.agg ((us.drop off).take n).toArray) w) ∧ (d.isRow = false → ∀ v, us[off]? = some v → (part T us.toArray off).run P w = .ok v w) := by
  obtain ⟨j, hj, hs⟩ := info_some hn
  constructor
  · intro hd
    have hagg : (isAgg T).run P w = .ok true w := by
      unfold isAgg
      rw [Sem.run_bind, run_underlying hu w]
      cases d <;> simp_all
    simp [part, Sem.run_bind, hagg, sizeOf, typeInfo, hj, hs]
  · intro hd v hv
    have hagg : (isAgg T).run P w = .ok false w := by
      unfold isAgg
      rw [Sem.run_bind, run_underlying hu w]
      cases d <;> simp_all
    simp [part, Sem.run_bind, hagg, hv]
theorem abin_ok {op : BinOp} {u v r : Value} (h : abin op u v = some r) (T : TypeId) (x y : Operand) (w : World) : ((do eqGuard op T x y u v; binOp op T u v) : Sem Value).run P w = .ok r w := by
  unfold abin at h
  split at h
  · split at h
    · rename_i k a k' b hk
      subst hk
      rw [Sem.run_bind, eqGuard_at_int]
      simp only [Sem.run_pure, Result.andThen_ok]
      by_cases hs : op = .shr
      · subst hs
        dsimp only at h
        by_cases hb : b = 1
        · rw [if_pos hb] at h
          cases h
          subst hb
          have := shift_shr k k a 1 (by decide) (by cases k <;> decide)
          simp [binOp, this]
        · rw [if_neg hb] at h
          cases h
      · cases op <;> simp only [] at h <;> first
          | exact absurd rfl hs
          | (cases h; simp [binOp, Op.intArith, Op.intCmp]; done)
          | (split at h
             · cases h
             · rename_i hb; cases h; simp [binOp, Op.intDiv, hb])
          | cases h
    · cases h
  · rename_i a b
    rw [Sem.run_bind, eqGuard_at_string]
    simp only [Sem.run_pure, Result.andThen_ok]
    by_cases hs : op = .add
    · subst hs
      dsimp only at h
      by_cases hb : a.size + b.size ≤ 9223372036854775807
      · rw [if_pos hb] at h
        cases h
        exact run_string_add_sum w _ _ hb
      · rw [if_neg hb] at h
        cases h
    · cases op <;> simp only [] at h <;> first
        | exact absurd rfl hs
        | (cases h; simp [binOp, Op.stringOp]; done)
        | cases h
  · cases h
theorem aun_ok {op : UnOp} {u r : Value} (h : aun op u = some r) (w : World) : (Op.unary op u).run P w = .ok r w := by
  unfold aun at h
  split at h
  · cases op <;> simp only [] at h <;> first | (cases h; rfl) | cases h
  · cases op <;> simp only [] at h <;> first | (cases h; rfl) | cases h
  · cases h
end

end Av
end Go.Proofs.YticnppnejafhdaaGreatDoor
/- Abstract states: calls, and all operations without effects. Generic. -/
namespace Go.Proofs.YticnppnejafhdaaGreatDoor
open Go.RowKit
namespace Av

section
variable {P : Program} {F : Fr} {σ : St} {γ : Gh} {a : Act} {w : World}
theorem Rel.boxcells (h : Rel F σ γ a w) {k : Nat} {cs : List PV} (hk : look σ.box k = some cs) : ∃ us, RepL (rdr F.R0 F.w0.heap.size σ γ w) cs us ∧ ∀ (i : Nat) (u : Value), us[i]? = some u → w.cell? ⟨γ.bx k, i, none⟩ = some u := by
  obtain ⟨us, ty, h1, _, h3⟩ := h.boxes k cs hk
  refine ⟨us, h3, fun i u hu => ?_⟩
  rw [cell_of_row w _ i _ ty (0, 0) h1]
  simpa using hu
theorem Rel.snapE (h : Rel F σ γ a w) {k off : Nat} {cs : List PV} (hk : look σ.box k = some cs) : RepE (fun p => w.cell? p) (cs.drop off) (.pointer (some ⟨γ.bx k, off, none⟩)) := by
  obtain ⟨us, h1, h2⟩ := h.boxcells hk
  exact ⟨_, _, us.drop off, rfl, (h1.drop off).mono (fun _ _ hp => h.cell hp), fun i x hx => h2 _ _ (by rw [List.getElem?_drop] at hx; exact hx)⟩
theorem snapCaps_ok (h : Rel F σ γ a w) {bx : Nat → Option (List PV)} (hbx : ∀ k cs, bx k = some cs → look σ.box k = some cs) : ∀ {caps : List (Nat × Nat)} {r : List (List PV)}, snapCaps bx caps = some r →
    RepEL (fun p => w.cell? p) r (caps.map fun c => Value.pointer (some ⟨γ.bx c.1, c.2, none⟩))
  | [], r, hr => by cases hr; exact .nil
  | c :: caps, r, hr => by
    unfold snapCaps at hr
    split at hr
    · rename_i cs r' h1 h2
      cases hr
      exact .cons (h.snapE (hbx _ _ h1)) (snapCaps_ok h hbx h2)
    · cases hr
theorem snap_ok (h : Rel F σ γ a w) {bx : Nat → Option (List PV)} (hbx : ∀ k cs, bx k = some cs → look σ.box k = some cs) {x x' : AV} {u : Value} (hx : RepA (rdr F.R0 F.w0.heap.size σ γ w) γ.bx x u) (hs : snap bx x = some x') :
    x'.refs = [] ∧ RepA (fun p => w.cell? p) (fun _ => 0) x' u ∧ (x.refs = [] → RepA (rdr F.R0 F.w0.heap.size σ γ w) (fun _ => 0) x' u) := by
  have same : x.refs = [] → x' = x → x'.refs = [] ∧ RepA (fun p => w.cell? p) (fun _ => 0) x' u ∧ (x.refs = [] → RepA (rdr F.R0 F.w0.heap.size σ γ w) (fun _ => 0) x' u) := fun h1 h2 => by
    subst h2
    exact ⟨h1, hx.mono (fun _ _ hp => h.cell hp) (fun k hk => by rw [h1] at hk; cases hk), fun _ => hx.free h1⟩
  cases x with
  | v y => exact same rfl (by cases hs; rfl)
  | sl sz rows => exact same rfl (by cases hs; rfl)
  | agg xs => exact same rfl (by cases hs; rfl)
  | tup vs => cases hs
  | ref k off =>
    simp only [snap] at hs
    cases hk : bx k with
    | none => rw [hk] at hs; cases hs
    | some cs =>
      rw [hk] at hs
      cases hs
      rw [show u = _ from hx]
      exact ⟨rfl, h.snapE (hbx _ _ hk), fun h => by cases h⟩
  | ept row => exact same rfl (by cases hs; rfl)
  | clo f caps =>
    simp only [snap] at hs
    cases hk : snapCaps bx caps with
    | none => rw [hk] at hs; cases hs
    | some r =>
      rw [hk] at hs
      cases hs
      refine ⟨rfl, ⟨_, hx, snapCaps_ok h hbx hk⟩, fun h => ?_⟩
      have : caps = [] := by simpa [AV.refs] using h
      subst this
      cases hk
      exact ⟨[], hx, .nil⟩
  | fnv f caps => exact same rfl (by cases hs; rfl)
/-- Slots' data and their values. -/
inductive Reps (R : Reader) (σ : St) (bx : Nat → Nat) : List AV → List Value → Prop
  | nil : Reps R σ bx [] []
  | cons {x : AV} {u : Value} {xs : List AV} {us : List Value} (h : RepA R bx x u) (hr : ∀ k ∈ x.refs, (look σ.box k).isSome) (t : Reps R σ bx xs us) : Reps R σ bx (x :: xs) (u :: us)
theorem evos_ok (h : Rel F σ γ a w) {g : Nat → Option AV} : ∀ {l : List Operand} {vs : List AV}, (∀ t y, Operand.tmp t ∈ l → g t = some y → look σ.slot t = some y) → evos g l = some vs →
    Reps (rdr F.R0 F.w0.heap.size σ γ w) σ γ.bx vs (l.map a.eval)
  | [], vs, _, he => by cases he; exact .nil
  | x :: l, vs, hg, he => by
    unfold evos at he
    split at he
    · rename_i v vs' h1 h2
      cases he
      obtain ⟨h3, h4⟩ := evo_ok h (fun t y ht => hg t y (by rw [ht]; exact List.mem_cons_self)) h1
      exact .cons h3 h4 (evos_ok h (fun t y ht => hg t y (List.mem_cons_of_mem _ ht)) h2)
    · cases he
theorem snaps_ok (h : Rel F σ γ a w) {bx : Nat → Option (List PV)} (hbx : ∀ k cs, bx k = some cs → look σ.box k = some cs) : ∀ {vs vs' : List AV} {us : List Value}, Reps (rdr F.R0 F.w0.heap.size σ γ w) σ γ.bx vs us → snaps bx vs = some vs' →
    RepAL (fun p => w.cell? p) vs' us ∧ ((vs.all fun x => x.refs.isEmpty) = true → RepAL (rdr F.R0 F.w0.heap.size σ γ w) vs' us)
  | [], vs', us, hr, hs => by
    cases hr
    cases hs
    exact ⟨.nil, fun _ => .nil⟩
  | x :: vs, vs', us, hr, hs => by
    cases hr with
    | cons h1 h2 h3 =>
      unfold snaps at hs
      split at hs
      · rename_i v vs'' h4 h5
        cases hs
        obtain ⟨g1, g2, g3⟩ := snap_ok h hbx h1 h4
        obtain ⟨g4, g5⟩ := snaps_ok h hbx h3 h5
        refine ⟨.cons g2 g1 g4, fun hall => ?_⟩
        rw [List.all_cons, Bool.and_eq_true] at hall
        exact .cons (g3 (by simpa using hall.1)) g1 (g5 hall.2)
      · cases hs
theorem lit_any {R R' : Reader} {bx bx' : Nat → Nat} {x : AV} {u : Value} (hl : x.lit = true) (h : RepA R bx x u) : RepA R' bx' x u := by
  cases x with
  | v y => exact h
  | tup vs =>
    obtain ⟨us, e, h⟩ := h
    refine ⟨us, e, ?_⟩
    simp only [AV.lit] at hl
    clear e
    induction h with
    | nil => exact .nil
    | cons h _ ih =>
      rw [List.all_cons, Bool.and_eq_true] at hl
      refine .cons ?_ (ih hl.2)
      cases h with
      | c h => cases h with
        | v _ h => exact .c (.v _ h)
        | sl => simp at hl
      | g => simp at hl
  | sl => cases hl
  | agg => cases hl
  | ref => cases hl
  | ept => cases hl
  | clo => cases hl
  | fnv => cases hl
/-- What a call makes, as the caller may read it. -/
theorem fresh_le (h : Rel F σ γ a w) {w1 : World} (hb : Below w.heap.size w w1) : ∀ p v, fresh (rdr F.R0 F.w0.heap.size σ γ w) w w1 none 0 p = some v → rdr F.R0 F.w0.heap.size σ γ w1 p = some v := by
  intro p v hp
  unfold fresh at hp
  by_cases hlt : p.block < w.heap.size
  · rw [if_pos hlt] at hp; exact grow_le hb p v hp
  · rw [if_neg hlt, if_neg (by rintro ⟨h1, _⟩; cases h1)] at hp
    unfold rdr
    have := h.base
    rw [if_neg (by omega), if_neg ?_]
    · exact hp
    · rintro (⟨k, cs, hk, hpk⟩ | ⟨L, e, sz, rows, h1, h2, h3, h4⟩ | hx)
      · have := (h.box_lt (k := k) (by rw [hk]; rfl)).1; omega
      · have := (h.row_lt (L := L) (by rw [h1]; rfl) h3).1; omega
      · have := (h.extf _ (.inl hx)).2.1; omega
/-- A call's result goes into a slot. -/
theorem Rel.call (h : Rel F σ γ a w) {w1 : World} (hb : Below w.heap.size w w1) {d : Nat} (hd : d < F.n) {res : FRes} {u : Value} (hr : ResRep (rdr F.R0 F.w0.heap.size σ γ w) w w1 res u) :
    ∃ γ', (∀ k, γ'.bx k = γ.bx k) ∧ Rel F (σ.res d ⟨res.av, none, res.own⟩) γ' (a.put (some d) u) w1 := by
  obtain ⟨x, own⟩ := res
  cases own with
  | none =>
    obtain ⟨h1, h2⟩ := hr
    exact ⟨γ, fun _ => rfl, (h.grow hb).put hd ((h2.free h1).mono (fresh_le h hb) (fun _ _ => rfl)) (fun k hk => by rw [show x.refs = [] from h1] at hk; cases hk)⟩
  | some e =>
    cases x with
    | sl sz rows =>
      obtain ⟨q, h1, h2⟩ := hr
      refine ⟨γ.setRow (.s d) q, fun _ => rfl, ?_⟩
      have := h.row (d := d) hd (s := none) (sz := sz) (rows := rows) (e := e) (v := u) (q := q) hb.os hb.tape hb.output hb.size (fun k hk _ => hb.block k hk) (fun t ht => by cases ht)
        (fun g hg => .inl (by rw [hg] at h1; exact h1.lt.1)) (h1.low h.base) (RepP.mono (fun p v hp => ?_) h2)
      · exact this
      · unfold fresh at hp
        by_cases hlt : p.block < w.heap.size
        · rw [if_pos hlt] at hp
          rw [if_pos (by rw [hp]; rfl)]
          exact hp
        · rw [if_neg hlt] at hp
          have hnone : rdr F.R0 F.w0.heap.size σ γ w p = none := by
            cases hq : rdr F.R0 F.w0.heap.size σ γ w p with
            | none => rfl
            | some z => exact absurd (Rel.cell_lt (h.cell hq)) hlt
          rw [hnone, if_neg (by simp)]
          by_cases hqp : q = some p.block
          · by_cases hoff : rows.length * sz ≤ p.off
            · rw [if_pos ⟨hqp, hoff⟩] at hp; cases hp
            · rw [if_neg (fun e => hoff e.2)] at hp
              rw [if_pos ⟨hqp, by omega⟩]
              exact hp
          · rw [if_neg (fun e => hqp e.1)] at hp
            rw [if_neg (fun e => hqp e.1), if_neg (fun e => e.elim hlt hqp)]
            exact hp
    | v => cases hr
    | agg => cases hr
    | tup => cases hr
    | ref => cases hr
    | ept => cases hr
    | clo => cases hr
    | fnv => cases hr
theorem run_callFunc {f : FuncId} (h : Enters P f) (args : Array Value) (w : World) : (callFunc f args).run P w = .ok (.enter f args) w := by
  obtain ⟨fn, c, hf, hname, hb⟩ := h
  have h1 : fn.name ≠ "runtime.NumGoroutine" := by simpa using hname
  simp [callFunc, hf, h1, hb]
theorem RepEL.al {R : Reader} {caps : List (List PV)} {us : List Value} (h : RepEL R caps us) : RepAL R (caps.map .ept) us := by
  induction h with
  | nil => exact .nil
  | cons h _ ih => exact .cons h rfl ih
end

end Av
end Go.Proofs.YticnppnejafhdaaGreatDoor
/- Abstract states: hop is sound. Generic. -/
namespace Go.Proofs.YticnppnejafhdaaGreatDoor
open Go.RowKit
namespace Av

section
variable {P : Program} {F : Fr}
theorem capRefs_ok {σ : St} {γ : Gh} {a : Act} {w : World} (h : Rel F σ γ a w) {g : Nat → Option AV} : ∀ {l : List Operand} {cs : List (Nat × Nat)}, (∀ t y, Operand.tmp t ∈ l → g t = some y → look σ.slot t = some y) → capRefs g l = some cs →
    l.map a.eval = (cs.map fun c => Value.pointer (some ⟨γ.bx c.1, c.2, none⟩)) ∧ ∀ c ∈ cs, (look σ.box c.1).isSome
  | [], cs, _, he => by cases he; exact ⟨rfl, fun c hc => by cases hc⟩
  | x :: l, cs, hg, he => by
    unfold capRefs at he
    split at he
    · rename_i k off r h1 h2
      cases he
      obtain ⟨h3, h4⟩ := evo_ok h (fun t y ht => hg t y (by rw [ht]; exact List.mem_cons_self)) h1
      obtain ⟨h5, h6⟩ := capRefs_ok h (fun t y ht => hg t y (List.mem_cons_of_mem _ ht)) h2
      refine ⟨by rw [List.map_cons, List.map_cons, h5, show a.eval x = _ from h3], fun c hc => ?_⟩
      rcases List.mem_cons.1 hc with rfl | hc
      · exact h4 _ (by simp [AV.refs])
      · exact h6 c hc
    · cases he
theorem bound_ok {σ : St} {γ : Gh} {a : Act} {w : World} (h : Rel F σ γ a w) {g : Nat → Option AV} {x : Option Operand} {dflt n : Nat} (hg : ∀ o, x = some o → ∀ t y, o = .tmp t → g t = some y → look σ.slot t = some y) (hb : bound g dflt x n) :
    (x = none ∧ n = dflt) ∨ ∃ o k i, x = some o ∧ a.eval o = .int k i ∧ 0 ≤ i ∧ n = i.toNat := by
  cases x with
  | none => exact .inl ⟨rfl, hb⟩
  | some o =>
    obtain ⟨k, i, h1, h2, h3⟩ := hb
    exact .inr ⟨o, k, i, rfl, (evo_ok h (hg o rfl) h1).1, h2, h3⟩
theorem run_bounds (isSlice : Bool) (len cap : Nat) (lo hi : Option Value) (l h : Nat) (w : World) (hlo : (lo = none ∧ l = 0) ∨ ∃ k i, lo = some (.int k i) ∧ 0 ≤ i ∧ l = i.toNat) (hhi : (hi = none ∧ h = len) ∨ ∃ k i, hi = some (.int k i) ∧ 0 ≤ i ∧ h = i.toNat) (h1 : l ≤ h) (h2 : h ≤ cap) :
    (Instr.sliceBounds isSlice len cap lo hi none).run P w = .ok (l, h, cap) w := by
  rcases hlo with ⟨rfl, rfl⟩ | ⟨k, i, rfl, hi0, rfl⟩ <;> rcases hhi with ⟨rfl, rfl⟩ | ⟨k', j, rfl, hj0, rfl⟩
  · simp [Instr.sliceBounds]
  · simp [Instr.sliceBounds, Instr.sliceBound, asIntOf, hj0, show j ≤ (cap : Int) by omega]
  · have e1 : i ≤ ((h : Nat) : Int) := by omega
    simp [Instr.sliceBounds, Instr.sliceBound, asIntOf, hi0, e1]
  · have e1 : ¬ (max j 0 < i) := by omega
    simp [Instr.sliceBounds, Instr.sliceBound, asIntOf, hi0, hj0, show j ≤ (cap : Int) by omega, e1]
theorem rows_slice {R : Reader} {sz : Nat} {rows : List (List PV)} {u : Value} (h : RepP R (.sl sz rows) u) {l hh : Nat} (h1 : l ≤ hh) (h2 : hh ≤ rows.length) :
    ∃ A cap, u = .slice A rows.length cap ∧ rows.length ≤ cap ∧ RepP R (.sl sz ((rows.take hh).drop l)) (.slice (if cap = l then A else A.map (·.add (l * sz))) (hh - l) (cap - l)) := by
  cases h with
  | sl _ _ A cap f hsz hA hf hc =>
    refine ⟨A, cap, rfl, hc, ?_⟩
    have hlen : ((rows.take hh).drop l).length = hh - l := by simp; omega
    have hget : ∀ (k : Nat) (row : List PV), ((rows.take hh).drop l)[k]? = some row → rows[l + k]? = some row := fun k row hk => by
      rw [List.getElem?_drop, List.getElem?_take] at hk
      split at hk
      · exact hk
      · cases hk
    rw [← hlen]
    refine .sl sz _ _ _ (fun k j => f (l + k) j) (fun k row hk => hsz _ row (hget k row hk)) ?_ (fun k row j p hk hj => hf _ row j p (hget k row hk) hj) (by omega)
    rcases hA with h0 | ⟨b, off, rfl, hA⟩
    · left; rw [h0]; simp
    · by_cases he : (rows.take hh).drop l = []
      · exact .inl he
      · right
        by_cases hcl : cap = l
        · exfalso
          apply he
          apply List.eq_nil_of_length_eq_zero
          omega
        · refine ⟨b, off + l * sz, by rw [if_neg hcl, Option.map_some, Addr.add_mid], fun k row j p hk hj => ?_⟩
          have := hA (l + k) row j p (hget k row hk) hj
          rw [show off + l * sz + k * sz + j = off + (l + k) * sz + j by rw [Nat.add_mul]; omega]
          exact this

theorem RepCL.get {R : Reader} {ps : List CV} {us : List Value} (h : RepCL R ps us) : ∀ {i : Nat} {p : CV}, ps[i]? = some p → ∃ u, us[i]? = some u ∧ RepC R p u := by
  induction h with
  | nil => intro i p hp; simp at hp
  | cons h _ ih =>
    intro i p hp
    cases i with
    | zero => simp at hp; subst hp; exact ⟨_, rfl, h⟩
    | succ i => simpa using ih (by simpa using hp)
theorem call_ok {σ : St} {γ : Gh} {a : Act} {w : World} {o : Oper} {d : Nat} (h : Rel F σ γ a w) (hd : o.dst = some d) (hdn : d < F.n) {f : Operand} {args : Array Operand} {ats : Array TypeId} (ho : o.op = .call { callee := .value f, args := args, argTypes := ats })
    {g : Nat → Option AV} {bx : Nat → Option (List PV)} (hg : ∀ t y, Operand.tmp t ∈ o.op.operands.toList → g t = some y → look σ.slot t = some y) (hbx : ∀ k cs, bx k = some cs → look σ.box k = some cs)
    {fv : AV} {fid : Nat} {caps : List (List PV)} {avs avs' : List AV} {res : FRes} (h1 : evo g f = some fv) (h2 : snap bx fv = some (.fnv fid caps)) (h3 : evos g args.toList = some avs) (h4 : snaps bx avs = some avs') (h5 : FnOK P fid (avs' ++ caps.map AV.ept) res)
    (h6 : ((fv :: avs).all fun x => x.refs.isEmpty) = true ∨ (res.av.lit = true ∧ res.own = none)) (Q : Exit → Act → World → Prop) : o.wp P a w (Stp P F σ γ a w o d (σ.res d ⟨res.av, none, res.own⟩)) Q := by
  obtain ⟨henter, hcall⟩ := h5
  obtain ⟨g1, g2⟩ := evo_ok h (fun t y ht => hg t y (by rw [ho, ht]; simp [Op.operands, Call.operands])) h1
  obtain ⟨_, g3, g4⟩ := snap_ok h hbx g1 h2
  obtain ⟨us, gv, g5⟩ := g3
  have gA := evos_ok h (fun t y ht => hg t y (by rw [ho]; simp [Op.operands, Call.operands]; right; simpa using ht)) h3
  obtain ⟨g6, g7⟩ := snaps_ok h hbx gA h4
  have hrun : (execOp a.eval o).run P w = .ok (.enter fid (args.map a.eval ++ us.toArray)) w := by
    simp [execOp, ho, resolve, gv, Deferred.ofValue, invoke, run_callFunc henter]
  have hargs : args.map a.eval ++ us.toArray = (args.toList.map a.eval ++ us).toArray := by
    obtain ⟨l⟩ := args
    simp
  unfold Oper.wp
  rw [hrun, Oper.upon_enter, hargs, hd]
  by_cases hall : ((fv :: avs).all fun x => x.refs.isEmpty) = true
  · have hall' := hall
    rw [List.all_cons, Bool.and_eq_true] at hall'
    obtain ⟨us', gv', g8⟩ := g4 (by simpa using hall'.1)
    have : us' = us := by
      rw [gv] at gv'
      simpa using gv'.symm
    subst this
    refine (hcall w _ (fun p v hp => h.cell hp) _ ((g7 hall'.2).append g8.al)).mono ?_
    rintro e w1 ⟨u, rfl, hb, hr⟩
    obtain ⟨γ', hγ, hrel⟩ := h.call hb hdn hr
    exact ⟨γ', u, rfl, hb, fun k _ => hγ k, hrel, fun g S _ hs => by simp [src, ho] at hs⟩
  · obtain ⟨hl, ho'⟩ := h6.resolve_left hall
    refine (hcall w (fun p => w.cell? p) (fun _ _ hp => hp) _ (g6.append g5.al)).mono ?_
    rintro e w1 ⟨u, rfl, hb, hr⟩
    have hr' : ResRep (rdr F.R0 F.w0.heap.size σ γ w) w w1 res u := by
      obtain ⟨x, own⟩ := res
      subst ho'
      exact ⟨hr.1, lit_any hl hr.2⟩
    obtain ⟨γ', hγ, hrel⟩ := h.call hb hdn hr'
    exact ⟨γ', u, rfl, hb, fun k _ => hγ k, hrel, fun g S _ hs => by simp [src, ho] at hs⟩

/-- THE OPERATIONS. -/
theorem hop_sound {o : Oper} {K : HR → Prop} {g : Nat → Option AV} {bx : Nat → Option (List PV)} (hh : hop P g bx o K) {d : Nat} (hd : o.dst = some d) (hdn : d < F.n) :
    ∃ r, K r ∧ ∀ σ γ a w, Rel F σ γ a w → (∀ t y, Operand.tmp t ∈ o.op.operands.toList → g t = some y → look σ.slot t = some y) → (∀ k cs, bx k = some cs → look σ.box k = some cs) → (bx d = none → look σ.box d = none) →
      ∀ Q, o.wp P a w (Stp P F σ γ a w o d (σ.res d r)) Q := by
  unfold hop at hh
  split at hh
  case h_1 x ho =>
    obtain ⟨v, h1, h2⟩ := hh
    refine ⟨_, h2, fun σ γ a w h hg hbx hbd Q => ?_⟩
    obtain ⟨h3, h4⟩ := evo_ok h (fun t y ht => hg t y (by rw [ho]; simp [Op.operands, ht])) h1
    exact pure_ok h hd hdn (by simp [execOp, ho]) h3 h4
  case h_2 x ho =>
    obtain ⟨v, h1, h2⟩ := hh
    refine ⟨_, h2, fun σ γ a w h hg hbx hbd Q => ?_⟩
    obtain ⟨h3, h4⟩ := evo_ok h (fun t y ht => hg t y (by rw [ho]; simp [Op.operands, ht])) h1
    exact pure_ok h hd hdn (by simp [execOp, ho]) h3 h4
  case h_3 c x y ho =>
    obtain ⟨t, v, h0, h1, h2⟩ := hh
    refine ⟨_, h2, fun σ γ a w h hg hbx hbd Q => ?_⟩
    obtain ⟨h3, h4⟩ := evo_ok h (x := if t = true then x else y) (fun u y' ht => hg u y' (by rw [ho]; cases t <;> simp_all [Op.operands])) h1
    have h5 : a.eval c = .bool t := (evo_ok h (fun u y' ht => hg u y' (by rw [ho]; simp [Op.operands, ht])) h0).1
    refine pure_ok h hd hdn ?_ h3 h4
    simp only [execOp, ho, h5, asBool, Sem.run_bind, Sem.run_pure, Result.andThen_ok]
    cases t <;> rfl
  case h_4 T x ho =>
    obtain ⟨v, cs, d', h1, h2, h3, h4, h5⟩ := hh
    rw [hd] at h3
    cases h3
    refine ⟨_, h5, fun σ γ a w h hg hbx hbd Q => ?_⟩
    obtain ⟨h6, _⟩ := evo_ok h (fun t y ht => hg t y (by rw [ho]; simp [Op.operands, ht])) h1
    have h7 := avCells_ok h6 h2
    refine box_ok h hd hdn (hbd h4) (us := (a.eval x).cells.toList) (ty := T) (fun g => by simp [src, ho]) ?_ h7
    simp only [execOp, ho, Instr.box, newVar, newRow, newObj, Sem.run_bind, Sem.run, Sem.run_pure, Result.andThen_ok, Array.toArray_toList]
    rfl
  case h_5 T ho =>
    obtain ⟨z, d', h1, h2, h3, h4, h5⟩ := hh
    rw [hd] at h3
    cases h3
    refine ⟨_, h5, fun σ γ a w h hg hbx hbd Q => ?_⟩
    obtain ⟨i, hi, hz⟩ := info_some h1
    refine box_ok h hd hdn (hbd h4) (us := z.cells.toList) (ty := T) (fun g => by simp [src, ho]) ?_ ?_
    · simp only [execOp, ho, Instr.alloc, zeroValue, typeInfo, newVar, newRow, newObj, program, Sem.run_bind, Sem.run, Sem.run_pure, Result.andThen_ok, Array.toArray_toList, hi, hz]
      rfl
    · rw [List.all_eq_true] at h2
      refine RepL.of (by simp) fun i p u hp hu => ?_
      rw [List.getElem?_map, hu] at hp
      cases hp
      exact .v u (h2 u (List.mem_of_getElem? hu))
  case h_6 T x ho =>
    have hmem : ∀ {σ : St} {a : Act}, (∀ t y, Operand.tmp t ∈ o.op.operands.toList → g t = some y → look σ.slot t = some y) → ∀ t y, x = .tmp t → g t = some y → look σ.slot t = some y := fun hg t y ht => hg t y (by rw [ho]; simp [Op.operands, ht])
    split at hh
    · rename_i k off he
      obtain ⟨cs, h1, h2⟩ := hh
      obtain ⟨v, h3, h4, h5⟩ := loadK_ok h2
      refine ⟨_, h3, fun σ γ a w h hg hbx hbd Q => ?_⟩
      obtain ⟨h6, _⟩ := evo_ok h (hmem (a := a) hg) he
      obtain ⟨us, h7, h8⟩ := h.boxcells (hbx _ _ h1)
      obtain ⟨u, h9, h10⟩ := h5 _ γ.bx w (γ.bx k) off (us.drop off) (h7.drop off) (fun i u hu => h8 _ _ (by rw [List.getElem?_drop] at hu; exact hu))
      refine pure_ok h hd hdn ?_ h10 (fun k hk => by rw [h4] at hk; cases hk)
      simp only [execOp, ho, show a.eval x = _ from h6, Sem.run_bind, h9, Sem.run_pure, Result.andThen_ok]
    · rename_i row he
      obtain ⟨v, h3, h4, h5⟩ := loadK_ok hh
      refine ⟨_, h3, fun σ γ a w h hg hbx hbd Q => ?_⟩
      obtain ⟨h6, _⟩ := evo_ok h (hmem (a := a) hg) he
      obtain ⟨b, off, us, h7, h8, h9⟩ := h6
      obtain ⟨u, h10, h11⟩ := h5 _ γ.bx w b off us h8 (fun i u hu => h.cell (h9 i u hu))
      refine pure_ok h hd hdn ?_ h11 (fun k hk => by rw [h4] at hk; cases hk)
      simp only [execOp, ho, h7, Sem.run_bind, h10, Sem.run_pure, Result.andThen_ok]
    · cases hh
  case h_7 T x i ho =>
    obtain ⟨fs, f, n0, h1, h2, h3, h30, hh⟩ := hh
    obtain ⟨n, rfl⟩ : ∃ n, n0 = n + 1 := ⟨n0 - 1, by omega⟩
    have hmem : ∀ {σ : St} {a : Act}, (∀ t y, Operand.tmp t ∈ o.op.operands.toList → g t = some y → look σ.slot t = some y) → ∀ t y, x = .tmp t → g t = some y → look σ.slot t = some y := fun hg t y ht => hg t y (by rw [ho]; simp [Op.operands, ht])
    split at hh
    · rename_i k off he
      refine ⟨_, hh, fun σ γ a w h hg hbx hbd Q => ?_⟩
      obtain ⟨h6, h7⟩ := evo_ok h (hmem (a := a) hg) he
      refine pure_ok h hd hdn (u := .pointer (some ⟨γ.bx k, off + f.offset, none⟩)) ?_ rfl h7
      simp only [execOp, ho, show a.eval x = _ from h6, Sem.run_bind, run_field_at w T fs f i n _ _ h1 h2 h3, Sem.run_pure, Result.andThen_ok]
    · rename_i row he
      refine ⟨_, hh, fun σ γ a w h hg hbx hbd Q => ?_⟩
      obtain ⟨h6, _⟩ := evo_ok h (hmem (a := a) hg) he
      obtain ⟨b, off, us, h7, h8, h9⟩ := h6
      refine pure_ok h hd hdn (u := .pointer (some ⟨b, off + f.offset, none⟩)) ?_ ⟨b, off + f.offset, us.drop f.offset, rfl, h8.drop _, fun j y hy => ?_⟩ (fun k hk => by cases hk)
      · simp only [execOp, ho, h7, Sem.run_bind, run_field_at w T fs f i n _ _ h1 h2 h3, Sem.run_pure, Result.andThen_ok]
      · rw [List.getElem?_drop] at hy
        rw [Nat.add_assoc]
        exact h9 _ _ hy
    · cases hh
  case h_8 T x i ho =>
    obtain ⟨fs, f, dd, n, xs, h1, h2, h3, h4, h5, hh⟩ := hh
    have hev : ∀ {σ γ a w}, Rel F σ γ a w → (∀ t y, Operand.tmp t ∈ o.op.operands.toList → g t = some y → look σ.slot t = some y) → ∃ us, a.eval x = .agg us.toArray ∧ RepL (rdr F.R0 F.w0.heap.size σ γ w) xs us := fun h hg =>
      (evo_ok h (fun t y ht => hg t y (by rw [ho]; simp [Op.operands, ht])) h5).1
    by_cases hrow : dd.isRow = true
    · rw [if_pos hrow] at hh
      refine ⟨_, hh, fun σ γ a w h hg hbx hbd Q => ?_⟩
      obtain ⟨us, h6, h7⟩ := hev h hg
      refine pure_ok h hd hdn (u := .agg ((us.drop f.offset).take n).toArray) ?_ ⟨_, rfl, (h7.drop _).take n⟩ (fun k hk => by cases hk)
      simp [execOp, ho, h6, Instr.field, run_underlying h1, h2, asAgg, (run_part (P := P) w f.type dd n us f.offset h3 h4).1 hrow]
    · rw [if_neg hrow] at hh
      obtain ⟨p, h6, hh⟩ := hh
      refine ⟨_, hh, fun σ γ a w h hg hbx hbd Q => ?_⟩
      obtain ⟨us, h7, h8⟩ := hev h hg
      obtain ⟨u, h9, h10⟩ := h8.get h6
      refine pure_ok h hd hdn (u := u) ?_ h10.av (fun k hk => by cases p <;> cases hk)
      simp [execOp, ho, h7, Instr.field, run_underlying h1, h2, asAgg, (run_part (P := P) w f.type dd n us f.offset h3 h4).2 (by simpa using hrow) u h9]
  case h_9 T x ix ho =>
    obtain ⟨k, i, h1, h2, hh⟩ := hh
    have hix : ∀ {σ γ a w}, Rel F σ γ a w → (∀ t y, Operand.tmp t ∈ o.op.operands.toList → g t = some y → look σ.slot t = some y) → a.eval ix = .int k i := fun h hg =>
      (evo_ok h (fun t y ht => hg t y (by rw [ho]; simp [Op.operands, ht])) h1).1
    have hmem : ∀ {σ : St} {a : Act}, (∀ t y, Operand.tmp t ∈ o.op.operands.toList → g t = some y → look σ.slot t = some y) → ∀ t y, x = .tmp t → g t = some y → look σ.slot t = some y := fun hg t y ht => hg t y (by rw [ho]; simp [Op.operands, ht])
    split at hh
    · rename_i e hu
      obtain ⟨sz, rows, row, h3, h4, h5, hh⟩ := hh
      refine ⟨_, hh, fun σ γ a w h hg hbx hbd Q => ?_⟩
      obtain ⟨h6, _⟩ := evo_ok h (hmem (a := a) hg) h3
      have h6' : RepP _ (.sl sz rows) (a.eval x) := h6
      obtain ⟨j, hj, hs⟩ := info_some h4
      have hlt : i.toNat < rows.length := (List.getElem?_eq_some_iff.1 h5).1
      cases hv : a.eval x with
      | slice A len cap =>
        rw [hv] at h6'
        cases h6' with
        | sl _ _ _ _ f hsz hA hf hc =>
          rcases hA with h0 | ⟨b, off, rfl, hA⟩
          · rw [h0] at h5; simp at h5
          · have hrl := hsz _ _ h5
            refine pure_ok h hd hdn (u := .pointer (some ⟨b, off + i.toNat * sz, none⟩)) ?_ ⟨b, off + i.toNat * sz, (List.range row.length).map (f i.toNat), rfl, ?_, fun q y hy => ?_⟩ (fun k hk => by cases hk)
            · simp [execOp, ho, hv, hix h hg, Instr.indexAt, run_underlying hu, asIntOf, h2, show i < (rows.length : Int) by omega, sizeOf, typeInfo, hj, hs, Addr.add_lit]
            · refine RepL.of (by simp) fun q p u hp hu' => ?_
              have hq : q < row.length := (List.getElem?_eq_some_iff.1 hp).1
              simp [hq] at hu'
              subst hu'
              exact hf _ row q p h5 hp
            · have hq : q < row.length := by
                rcases Nat.lt_or_ge q row.length with h' | h'
                · exact h'
                · rw [List.getElem?_eq_none (by simpa using h')] at hy; cases hy
              simp [hq] at hy
              subst hy
              exact hA _ row q row[q] h5 (List.getElem?_eq_getElem hq)
      | bool => rw [hv] at h6'; cases h6'
      | int => rw [hv] at h6'; cases h6'
      | float => rw [hv] at h6'; cases h6'
      | complex => rw [hv] at h6'; cases h6'
      | string => rw [hv] at h6'; cases h6'
      | pointer => rw [hv] at h6'; cases h6'
      | map => rw [hv] at h6'; cases h6'
      | chan => rw [hv] at h6'; cases h6'
      | func => rw [hv] at h6'; cases h6'
      | nilFunc => rw [hv] at h6'; cases h6'
      | iface => rw [hv] at h6'; cases h6'
      | nilIface => rw [hv] at h6'; cases h6'
      | agg => rw [hv] at h6'; cases h6'
      | tuple => rw [hv] at h6'; cases h6'
    · rename_i n e hu
      obtain ⟨sz, h4, h5, hh⟩ := hh
      obtain ⟨j, hj, hs⟩ := info_some h4
      split at hh
      · rename_i k' off he
        refine ⟨_, hh, fun σ γ a w h hg hbx hbd Q => ?_⟩
        obtain ⟨h6, h7⟩ := evo_ok h (hmem (a := a) hg) he
        refine pure_ok h hd hdn (u := .pointer (some ⟨γ.bx k', off + i.toNat * sz, none⟩)) ?_ rfl h7
        simp [execOp, ho, show a.eval x = _ from h6, hix h hg, Instr.indexAt, run_underlying hu, asIntOf, Instr.sureAddr, h2, h5, sizeOf, typeInfo, hj, hs, Addr.add_lit]
      · rename_i row he
        refine ⟨_, hh, fun σ γ a w h hg hbx hbd Q => ?_⟩
        obtain ⟨h6, _⟩ := evo_ok h (hmem (a := a) hg) he
        obtain ⟨b, off, us, h7, h8, h9⟩ := h6
        refine pure_ok h hd hdn (u := .pointer (some ⟨b, off + i.toNat * sz, none⟩)) ?_ ⟨b, off + i.toNat * sz, us.drop (i.toNat * sz), rfl, h8.drop _, fun j y hy => ?_⟩ (fun k hk => by cases hk)
        · simp [execOp, ho, h7, hix h hg, Instr.indexAt, run_underlying hu, asIntOf, Instr.sureAddr, h2, h5, sizeOf, typeInfo, hj, hs, Addr.add_lit]
        · rw [List.getElem?_drop] at hy
          rw [Nat.add_assoc]
          exact h9 _ _ hy
      · cases hh
    · cases hh
  case h_10 T x lo hi mx ho =>
    obtain ⟨rfl, hh⟩ := hh
    have hmem : ∀ {σ : St} {a : Act}, (∀ t y, Operand.tmp t ∈ o.op.operands.toList → g t = some y → look σ.slot t = some y) → ∀ t y, x = .tmp t → g t = some y → look σ.slot t = some y := fun hg t y ht => hg t y (by rw [ho]; simp [Op.operands, ht])
    have hlo : ∀ {σ : St} {a : Act}, (∀ t y, Operand.tmp t ∈ o.op.operands.toList → g t = some y → look σ.slot t = some y) → ∀ z, lo = some z → ∀ t y, z = .tmp t → g t = some y → look σ.slot t = some y := fun hg z hz t y ht => hg t y (by rw [ho, hz, ht]; simp [Op.operands])
    have hhi : ∀ {σ : St} {a : Act}, (∀ t y, Operand.tmp t ∈ o.op.operands.toList → g t = some y → look σ.slot t = some y) → ∀ z, hi = some z → ∀ t y, z = .tmp t → g t = some y → look σ.slot t = some y := fun hg z hz t y ht => hg t y (by rw [ho, hz, ht]; simp [Op.operands])
    have val : ∀ {a : Act} {q : Option Operand} {n m : Nat}, ((q = none ∧ n = m) ∨ ∃ o k i, q = some o ∧ a.eval o = .int k i ∧ 0 ≤ i ∧ n = i.toNat) → (q.map a.eval = none ∧ n = m) ∨ ∃ k i, q.map a.eval = some (.int k i) ∧ 0 ≤ i ∧ n = i.toNat := fun hq => by
      rcases hq with ⟨rfl, rfl⟩ | ⟨o, k, i, rfl, h1, h2, h3⟩
      · exact .inl ⟨rfl, rfl⟩
      · exact .inr ⟨k, i, by simp [h1], h2, h3⟩
    split at hh
    · rename_i e hu
      obtain ⟨sz, rows, l, hI, h1, h2, h3, h4, h5, h6, hh⟩ := hh
      refine ⟨_, hh, fun σ γ a w h hg hbx hbd Q => ?_⟩
      obtain ⟨h7, _⟩ := evo_ok h (hmem (a := a) hg) h1
      obtain ⟨A, cap, h8, h9, h10⟩ := rows_slice h7 h5 h6
      have hb := run_bounds (P := P) true rows.length cap (lo.map a.eval) (hi.map a.eval) l hI w (val (bound_ok h (hlo (a := a) hg) h3)) (val (bound_ok h (hhi (a := a) hg) h4)) h5 (Nat.le_trans h6 h9)
      obtain ⟨j, hj, hs⟩ := info_some h2
      refine pure_ok h hd hdn (u := .slice (if cap = l then A else A.map (·.add (l * sz))) (hI - l) (cap - l)) ?_ h10 (fun k hk => by cases hk)
      simp [execOp, ho, h8, Instr.sliceAt, Instr.slice, run_underlying hu, hb, sizeOf, typeInfo, hj, hs]
    · rename_i hu
      obtain ⟨s, l, hI, h1, h3, h4, h5, h6, hh⟩ := hh
      refine ⟨_, hh, fun σ γ a w h hg hbx hbd Q => ?_⟩
      obtain ⟨h7, _⟩ := evo_ok h (hmem (a := a) hg) h1
      have hb := run_bounds (P := P) false s.size s.size (lo.map a.eval) (hi.map a.eval) l hI w (val (bound_ok h (hlo (a := a) hg) h3)) (val (bound_ok h (hhi (a := a) hg) h4)) h5 h6
      refine pure_ok h hd hdn (u := .string (s.extract l hI)) ?_ rfl (fun k hk => by cases hk)
      simp [execOp, ho, show a.eval x = _ from h7, Instr.sliceAt, Instr.slice, run_underlying hu, hb]
    · cases hh
  case h_11 T x ix ho =>
    obtain ⟨k, i, s, c, h1, h2, h3, h4, h5, hh⟩ := hh
    refine ⟨_, hh, fun σ γ a w h hg hbx hbd Q => ?_⟩
    have h6 : a.eval ix = .int k i := (evo_ok h (fun t y ht => hg t y (by rw [ho]; simp [Op.operands, ht])) h1).1
    have h7 : a.eval x = .string s := (evo_ok h (fun t y ht => hg t y (by rw [ho]; simp [Op.operands, ht])) h4).1
    refine pure_ok h hd hdn (u := .int .u8 (c.toNat : Nat)) ?_ rfl (fun k hk => by cases hk)
    have h8 : s[i.toNat]? = some c := h5
    simp [execOp, ho, h6, h7, Instr.index, run_underlying h3, asIntOf, h2, h8]
  case h_12 op T x y yT ho =>
    obtain ⟨u, v, r, h1, h2, h3, hh⟩ := hh
    refine ⟨_, hh, fun σ γ a w h hg hbx hbd Q => ?_⟩
    have h6 : a.eval x = u := (evo_ok h (fun t z ht => hg t z (by rw [ho]; simp [Op.operands, ht])) h1).1
    have h7 : a.eval y = v := (evo_ok h (fun t z ht => hg t z (by rw [ho]; simp [Op.operands, ht])) h2).1
    refine pure_ok h hd hdn (u := r) ?_ rfl (fun k hk => by cases hk)
    simp only [execOp, ho, h6, h7, Sem.run_bind (f := fun z => pure (Next.value z)), abin_ok h3, Sem.run_pure, Result.andThen_ok]
  case h_13 op T x ho =>
    obtain ⟨u, r, h1, h3, hh⟩ := hh
    refine ⟨_, hh, fun σ γ a w h hg hbx hbd Q => ?_⟩
    have h6 : a.eval x = u := (evo_ok h (fun t z ht => hg t z (by rw [ho]; simp [Op.operands, ht])) h1).1
    refine pure_ok h hd hdn (u := r) ?_ rfl (fun k hk => by cases hk)
    simp only [execOp, ho, h6, Sem.run_bind, aun_ok h3, Sem.run_pure, Result.andThen_ok]
  case h_14 T x ho =>
    obtain ⟨u, h1, h3, hh⟩ := hh
    refine ⟨_, hh, fun σ γ a w h hg hbx hbd Q => ?_⟩
    have h6 : a.eval x = u := (evo_ok h (fun t z ht => hg t z (by rw [ho]; simp [Op.operands, ht])) h1).1
    refine pure_ok h hd hdn (u := .iface T u) ?_ rfl (fun k hk => by cases hk)
    simp only [execOp, ho, h6, Sem.run_bind, run_makeInterface w T u h3, Sem.run_pure, Result.andThen_ok]
  case h_15 fn first caps ho =>
    obtain ⟨f, cs, rfl, rfl, h1, hh⟩ := hh
    refine ⟨_, hh, fun σ γ a w h hg hbx hbd Q => ?_⟩
    obtain ⟨h6, h7⟩ := capRefs_ok h (fun t y ht => hg t y (by rw [ho]; simp [Op.operands]; simpa using ht)) h1
    refine pure_ok h hd hdn (u := .func (.func f) #[] (caps.map a.eval)) ?_ ?_ ?_
    · simp [execOp, ho, Instr.makeFunc]
    · show _ = Value.func (.func f) #[] _
      rw [← h6, ← List.map_toArray, Array.toArray_toList]
    · intro k hk
      obtain ⟨c, hc, rfl⟩ := List.mem_map.1 hk
      exact h7 c hc
  case h_16 x i ho =>
    obtain ⟨vs, c, h1, h2, hh⟩ := hh
    refine ⟨_, hh, fun σ γ a w h hg hbx hbd Q => ?_⟩
    obtain ⟨⟨us, h3, h4⟩, _⟩ := evo_ok h (fun t z ht => hg t z (by rw [ho]; simp [Op.operands, ht])) h1
    have hget : ∃ u, us[i]? = some u ∧ RepC (rdr F.R0 F.w0.heap.size σ γ w) c u := by
      exact h4.get h2
    obtain ⟨u, h5, h6⟩ := hget
    refine pure_ok h hd hdn (u := u) ?_ h6.av (fun k hk => by cases c with | c p => (cases p <;> cases hk) | g => cases hk)
    simp [execOp, ho, h3, Instr.extract, h5]
  case h_17 c ho =>
    unfold hopCall at hh
    split at hh
    · rename_i b hb
      unfold hopB at hh
      obtain ⟨callee, args, ats⟩ := c
      dsimp only at hb hh
      subst hb
      split at hh
      · obtain ⟨x, T, ha, hT, hh⟩ := hh
        obtain rfl := arr_of ha
        obtain rfl := arr_of hT
        have hmem : ∀ {σ : St} {a : Act}, (∀ t y, Operand.tmp t ∈ o.op.operands.toList → g t = some y → look σ.slot t = some y) → ∀ t y, x = .tmp t → g t = some y → look σ.slot t = some y := fun hg t y ht => hg t y (by rw [ho]; simp [Op.operands, Call.operands, ht])
        rcases hh with ⟨sz, rows, e, h1, h2, hh⟩ | ⟨s, h1, h2, hh⟩ | ⟨A, n, c, e, h1, h2, hh⟩
        · refine ⟨_, hh, fun σ γ a w h hg hbx hbd Q => ?_⟩
          obtain ⟨h3, _⟩ := evo_ok h (hmem (a := a) hg) h1
          obtain ⟨A, cap, h4, _⟩ := rows_slice h3 (Nat.zero_le 0) (Nat.zero_le _)
          refine pure_ok h hd hdn (u := .int .i64 rows.length) ?_ rfl (fun k hk => by cases hk)
          simp [execOp, ho, resolve, invoke, builtin, h4, Builtin.len_, run_underlying h2, goInt]
        · refine ⟨_, hh, fun σ γ a w h hg hbx hbd Q => ?_⟩
          obtain ⟨h3, _⟩ := evo_ok h (hmem (a := a) hg) h1
          refine pure_ok h hd hdn (u := .int .i64 s.size) ?_ rfl (fun k hk => by cases hk)
          simp [execOp, ho, resolve, invoke, builtin, show a.eval x = _ from h3, Builtin.len_, run_underlying h2, goInt]
        · refine ⟨_, hh, fun σ γ a w h hg hbx hbd Q => ?_⟩
          obtain ⟨h3, _⟩ := evo_ok h (hmem (a := a) hg) h1
          refine pure_ok h hd hdn (u := .int .i64 n) ?_ rfl (fun k hk => by cases hk)
          simp [execOp, ho, resolve, invoke, builtin, show a.eval x = _ from h3, Builtin.len_, run_underlying h2, goInt]
      · obtain ⟨x, y, k, u, v, ha, h1, h2, hh⟩ := hh
        obtain rfl := arr_of ha
        refine ⟨_, hh, fun σ γ a w h hg hbx hbd Q => ?_⟩
        have h6 : a.eval x = .int k u := (evo_ok h (fun t z ht => hg t z (by rw [ho]; simp [Op.operands, Call.operands, ht])) h1).1
        have h7 : a.eval y = .int k v := (evo_ok h (fun t z ht => hg t z (by rw [ho]; simp [Op.operands, Call.operands, ht])) h2).1
        refine pure_ok h hd hdn (u := .int k (if u < v then v else u)) ?_ rfl (fun k hk => by cases hk)
        simp [execOp, ho, resolve, invoke, builtin, h6, h7, run_max_int2]
      · obtain ⟨x, y, k, u, v, ha, h1, h2, hh⟩ := hh
        obtain rfl := arr_of ha
        refine ⟨_, hh, fun σ γ a w h hg hbx hbd Q => ?_⟩
        have h6 : a.eval x = .int k u := (evo_ok h (fun t z ht => hg t z (by rw [ho]; simp [Op.operands, Call.operands, ht])) h1).1
        have h7 : a.eval y = .int k v := (evo_ok h (fun t z ht => hg t z (by rw [ho]; simp [Op.operands, Call.operands, ht])) h2).1
        refine pure_ok h hd hdn (u := .int k (if v < u then v else u)) ?_ rfl (fun k hk => by cases hk)
        simp [execOp, ho, resolve, invoke, builtin, h6, h7, run_min_int2]
      · cases hh
    · rename_i f hf
      obtain ⟨callee, args, ats⟩ := c
      dsimp only at hf hh
      subst hf
      obtain ⟨fv, fid, caps, avs, avs', res, h1, h2, h3, h4, h5, h6, hh⟩ := hh
      exact ⟨_, hh, fun σ γ a w h hg hbx hbd Q => call_ok h hd hdn ho hg hbx h1 h2 h3 h4 h5 h6 Q⟩
    · cases hh
  case h_18 x ho =>
    obtain ⟨v, h1, hp, hh⟩ := hh
    refine ⟨_, hh, fun σ γ a w h hg hbx hbd Q => ?_⟩
    obtain ⟨h3, h4⟩ := evo_ok h (fun t y ht => hg t y (by rw [ho]; simp [Op.operands, ht])) h1
    refine pure_ok h hd hdn (u := a.eval x) ?_ h3 h4
    have hptr : ∃ p, a.eval x = .pointer (some p) := by
      cases v with
      | ref k off => exact ⟨_, h3⟩
      | ept row => obtain ⟨b, off, us, e, _⟩ := h3; exact ⟨_, e⟩
      | v y =>
        cases y with
        | pointer q =>
          cases q with
          | some p => exact ⟨p, h3⟩
          | none => cases hp
        | _ => cases hp
      | _ => cases hp
    obtain ⟨p, hq⟩ := hptr
    simp [execOp, ho, hq]
  case h_19 => cases hh
end

end Av
end Go.Proofs.YticnppnejafhdaaGreatDoor
