import Derived.WalkKit
import Derived.WalkLawsBesides
import Derived.KernelRfl
import Derived.Outline
import Derived.LoopTactic
import Derived.Deep.QuietTactic
import Derived.BigQuiet
import Derived.Deep.DeepFit
import Derived.Lib.Hide
import Derived.StillTail
/- The plain functions that the record's Go functions compute: no Go in sight. -/
namespace Go.Proofs.Ytkdigdnacggknaa
namespace Rc

structure Att where
  s : Int
  f : Int
  cs : Int
  co : Int
  cf : Int
  ct : Int
  cl : Int
  o : Int

structure Dlv where
  fl : Int
  fr : Int
  sl : Int

structure Rec where
  slots : Int
  al : List Att
  dl : List Dlv

instance : Inhabited Att := ⟨⟨0, 0, 0, 0, 0, 0, 0, 0⟩⟩
instance : Inhabited Dlv := ⟨⟨0, 0, 0⟩⟩

theorem Att.ext_iff' (a b : Att) : a = b ↔ (a.s = b.s ∧ a.f = b.f ∧ a.cs = b.cs ∧ a.co = b.co ∧ a.cf = b.cf ∧ a.ct = b.ct ∧ a.cl = b.cl ∧ a.o = b.o) := by
  cases a; cases b; simp
theorem Dlv.ext_iff' (a b : Dlv) : a = b ↔ (a.fl = b.fl ∧ a.fr = b.fr ∧ a.sl = b.sl) := by
  cases a; cases b; simp
instance : DecidableEq Att := fun a b => decidable_of_iff _ (Att.ext_iff' a b).symm
instance : DecidableEq Dlv := fun a b => decidable_of_iff _ (Dlv.ext_iff' a b).symm
theorem Rec.ext_iff' (a b : Rec) : a = b ↔ (a.slots = b.slots ∧ a.al = b.al ∧ a.dl = b.dl) := by
  cases a; cases b; simp
instance : DecidableEq Rec := fun a b => decidable_of_iff _ (Rec.ext_iff' a b).symm

/-- from 0 on, and less than another one -/
def belowB (n m : Int) : Bool := decide (0 ≤ n) && decide (n < m)

def attB (a : Att) (slots : Int) : Bool :=
  belowB a.s slots && (belowB a.f 1048576 && (belowB a.cs 512 && (belowB a.co 16 && (belowB a.cf 32 && (belowB a.ct 32 && (!(a.cf == a.ct) && (belowB a.cl 256 && (decide (1 ≤ a.o) && decide (a.o ≤ 4)))))))))

def cmpI (x y : Int) : Int := if x < y then -1 else if y < x then 1 else 0
def orI : List Int → Int
  | [] => 0
  | x :: l => if x = 0 then orI l else x
def cmpA (x y : Att) : Int := orI [cmpI x.s y.s, cmpI x.cs y.cs, cmpI x.co y.co, cmpI x.cf y.cf, cmpI x.ct y.ct, cmpI x.cl y.cl]
def prevBad (p : Option Att) (a : Att) : Bool :=
  match p with
  | some p => decide (0 ≤ cmpA p a)
  | none => false

/-- the walk over attempts: the one before, the senders of the slot 'at_' -/
def attsGo (slots : Int) : Option Att → List Int → Int → List Att → Bool
  | _, _, _, [] => true
  | p, S, at_, a :: l =>
    if (!attB a slots || prevBad p a) = true then false
    else if a.s = at_ then (if a.cf ∈ S then false else attsGo slots (some a) (a.cf :: S) at_ l)
    else attsGo slots (some a) [a.cf] a.s l
def attsB (l : List Att) (slots : Int) : Bool := attsGo slots none [] (-1) l

def dlvB (d : Dlv) (slots : Int) : Bool := belowB d.fl 256 && (belowB d.fr 1048576 && belowB d.sl slots)
def cmpD (x y : Dlv) : Int := orI [cmpI x.sl y.sl, cmpI x.fl y.fl]
def prevBadD (p : Option Dlv) (d : Dlv) : Bool :=
  match p with
  | some p => decide (0 ≤ cmpD p d)
  | none => false
def dlvsGo (slots : Int) : Option Dlv → List Dlv → Bool
  | _, [] => true
  | p, d :: l => if dlvB d slots = false then false else if prevBadD p d = true then false else dlvsGo slots (some d) l
def dlvsB (l : List Dlv) (slots : Int) : Bool := dlvsGo slots none l

/-- what Check accepts -/
def good (r : Rec) : Bool :=
  decide (0 ≤ r.slots) && (decide (r.slots ≤ 4096) && (decide (r.al.length ≤ 65536) && (decide (r.dl.length ≤ 65536) && (attsB r.al r.slots && dlvsB r.dl r.slots))))
def checkE (r : Rec) : Int := if good r then 0 else 1

/-- the reference's check -/
def inB (n lo hi : Int) : Bool := decide (lo ≤ n) && decide (n ≤ hi)
def attR (slots : Int) (a : Att) : Bool :=
  inB a.s 0 (slots - 1) && (inB a.f 0 1048575 && (inB a.cs 0 511 && (inB a.co 0 15 && (inB a.cf 0 31 && (inB a.ct 0 31 && (!(a.cf == a.ct) && (inB a.cl 0 255 && inB a.o 1 4)))))))
def keysA (a : Att) : List Int := [a.s, a.cs, a.co, a.cf, a.ct, a.cl]
def lessL : List Int → List Int → Bool
  | x :: xs, y :: ys => if x = y then lessL xs ys else decide (x < y)
  | _, _ => false
def lessA (x y : Att) : Bool := lessL (keysA x) (keysA y)

end Rc
end Go.Proofs.Ytkdigdnacggknaa
/- Words for memory: slices that read as lists of rows of cells; a family of later worlds for regions that draw their order. Generic: no program's numbers. -/
namespace Go.Proofs.Ytkdigdnacggknaa
open Go.RowKit

/-- The slice with address A holds the rows xs, sz cells a row, in blocks below B. -/
def Lies (w : World) (B sz : Nat) (A : Option Addr) (xs : List (List Value)) : Prop :=
  xs ≠ [] → ∃ b off, A = some ⟨b, off, none⟩ ∧ b < B ∧ ∀ k row, xs[k]? = some row → ∀ j u, row[j]? = some u → w.cell? ⟨b, off + k * sz + j, none⟩ = some u

theorem Lies.nil (w : World) (B sz : Nat) (A : Option Addr) : Lies w B sz A [] := fun h => absurd rfl h
theorem Lies.keep {w w' : World} {B sz : Nat} {A : Option Addr} {xs : List (List Value)} (h : Lies w B sz A xs) (hk : ∀ p : Addr, p.block < B → w'.cell? p = w.cell? p) : Lies w' B sz A xs := by
  intro hne
  obtain ⟨b, off, e, hb, hc⟩ := h hne
  exact ⟨b, off, e, hb, fun k row hr j u hu => (hk _ hb).trans (hc k row hr j u hu)⟩
theorem Lies.below {w w' : World} {B sz : Nat} {A : Option Addr} {xs : List (List Value)} (h : Lies w B sz A xs) (hb : Below B w w') : Lies w' B sz A xs :=
  h.keep fun _ hp => hb.cell hp
theorem Lies.below_le {w w' : World} {B B' sz : Nat} {A : Option Addr} {xs : List (List Value)} (h : Lies w B sz A xs) (hb : Below B' w w') (hB : B ≤ B') : Lies w' B sz A xs :=
  h.keep fun _ hp => hb.cell (Nat.lt_of_lt_of_le hp hB)
theorem Lies.more {w : World} {B B' sz : Nat} {A : Option Addr} {xs : List (List Value)} (h : Lies w B sz A xs) (hB : B ≤ B') : Lies w B' sz A xs := by
  intro hne
  obtain ⟨b, off, e, hb, hc⟩ := h hne
  exact ⟨b, off, e, Nat.lt_of_lt_of_le hb hB, hc⟩

/-- The worlds that are w below B. -/
structure ExtW (B : Nat) (w : World) where
  val : World
  below : Below B w val

instance (B : Nat) (w : World) : Nonempty (ExtW B w) := ⟨⟨w, Below.refl _ _⟩⟩
theorem ExtW.cell {B : Nat} {w : World} (x : ExtW B w) (p : Addr) (h : p.block < B) : x.val.cell? p = w.cell? p := x.below.cell h

/-- A region that draws its order, whose operations read below B alone and whose callees leave what lies below B: one walk of the text's order. -/
theorem wp_region_ext {P : Program} {id : Nat} {Q : Exit → Act → World → Prop} {a : Act} {w : World} {l : List Oper} (B : Nat) (hm : P.follows .mixedOrders = true) (hB : Region.lexB .any l.toArray = true)
    (h : wpQuiet P l.toArray (fun w' => ∃ x : ExtW B w, w' = x.val) (fun a' => ∀ w', (∃ x : ExtW B w, w' = x.val) → Q .normal a' w') l a) : (Code.region id l.toArray true).wp P Q a w :=
  wp_region_quiet (C := fun w' => ∃ x : ExtW B w, w' = x.val) hm hB ⟨⟨w.drew, (Below.refl _ _).drew⟩, rfl⟩ (by simpa using h)

/-- A callee's contract, met at such a world. -/
theorem Calls.ext_of {P : Program} {f : FuncId} {args : Array Value} {w : World} {B : Nat} {x : ExtW B w} {v : Value}
    (h : Calls P f args x.val fun e w' => e = .returned v ∧ Below x.val.heap.size x.val w') (hB : B ≤ w.heap.size) : Calls P f args x.val fun e w'' => e = .returned v ∧ ∃ y : ExtW B w, w'' = y.val :=
  h.mono fun _ w' ⟨he, hm⟩ => ⟨he, ⟨w', x.below.trans (hm.mono (Nat.le_trans hB x.below.size))⟩, rfl⟩

def Rc.Att.row (a : Rc.Att) : List Value := [.int .i64 a.s, .int .i64 a.f, .int .i64 a.cs, .int .i64 a.co, .int .i64 a.cf, .int .i64 a.ct, .int .i64 a.cl, .int .i64 a.o]
def Rc.Dlv.row (d : Rc.Dlv) : List Value := [.int .i64 d.fl, .int .i64 d.fr, .int .i64 d.sl]

def LiesA (w : World) (B : Nat) (A : Option Addr) (l : List Rc.Att) : Prop := Lies w B 8 A (l.map Rc.Att.row)
def LiesD (w : World) (B : Nat) (A : Option Addr) (l : List Rc.Dlv) : Prop := Lies w B 3 A (l.map Rc.Dlv.row)

theorem LiesA.below {w w' : World} {B : Nat} {A : Option Addr} {l : List Rc.Att} (h : LiesA w B A l) (hb : Below B w w') : LiesA w' B A l := Lies.below h hb
theorem LiesD.below {w w' : World} {B : Nat} {A : Option Addr} {l : List Rc.Dlv} (h : LiesD w B A l) (hb : Below B w w') : LiesD w' B A l := Lies.below h hb
theorem LiesA.below_le {w w' : World} {B B' : Nat} {A : Option Addr} {l : List Rc.Att} (h : LiesA w B A l) (hb : Below B' w w') (hB : B ≤ B') : LiesA w' B A l := Lies.below_le h hb hB
theorem LiesD.below_le {w w' : World} {B B' : Nat} {A : Option Addr} {l : List Rc.Dlv} (h : LiesD w B A l) (hb : Below B' w w') (hB : B ≤ B') : LiesD w' B A l := Lies.below_le h hb hB
theorem LiesA.more {w : World} {B B' : Nat} {A : Option Addr} {l : List Rc.Att} (h : LiesA w B A l) (hB : B ≤ B') : LiesA w B' A l := Lies.more h hB
theorem LiesD.more {w : World} {B B' : Nat} {A : Option Addr} {l : List Rc.Dlv} (h : LiesD w B A l) (hB : B ≤ B') : LiesD w B' A l := Lies.more h hB
theorem LiesA.at_ {w : World} {B : Nat} {A : Option Addr} {l : List Rc.Att} (h : LiesA w B A l) {k : Nat} {a : Rc.Att} (ha : l[k]? = some a) :
    ∃ b off, A = some ⟨b, off, none⟩ ∧ b < B ∧ ∀ k a, l[k]? = some a → w.cell? ⟨b, off + k * 8, none⟩ = some (.int .i64 a.s) ∧ w.cell? ⟨b, off + k * 8 + 1, none⟩ = some (.int .i64 a.f) ∧ w.cell? ⟨b, off + k * 8 + 2, none⟩ = some (.int .i64 a.cs) ∧
      w.cell? ⟨b, off + k * 8 + 3, none⟩ = some (.int .i64 a.co) ∧ w.cell? ⟨b, off + k * 8 + 4, none⟩ = some (.int .i64 a.cf) ∧ w.cell? ⟨b, off + k * 8 + 5, none⟩ = some (.int .i64 a.ct) ∧
      w.cell? ⟨b, off + k * 8 + 6, none⟩ = some (.int .i64 a.cl) ∧ w.cell? ⟨b, off + k * 8 + 7, none⟩ = some (.int .i64 a.o) := by
  have hne : l.map Rc.Att.row ≠ [] := by
    intro h0
    have : l = [] := by simpa using h0
    subst this
    simp at ha
  obtain ⟨b, off, e, hb, hc⟩ := h hne
  refine ⟨b, off, e, hb, fun k a ha => ?_⟩
  have hr : (l.map Rc.Att.row)[k]? = some a.row := by simp [ha]
  exact ⟨hc k _ hr 0 _ rfl, hc k _ hr 1 _ rfl, hc k _ hr 2 _ rfl, hc k _ hr 3 _ rfl, hc k _ hr 4 _ rfl, hc k _ hr 5 _ rfl, hc k _ hr 6 _ rfl, hc k _ hr 7 _ rfl⟩

theorem LiesD.at_ {w : World} {B : Nat} {A : Option Addr} {l : List Rc.Dlv} (h : LiesD w B A l) {k : Nat} {a : Rc.Dlv} (ha : l[k]? = some a) :
    ∃ b off, A = some ⟨b, off, none⟩ ∧ b < B ∧ ∀ k a, l[k]? = some a → w.cell? ⟨b, off + k * 3, none⟩ = some (.int .i64 a.fl) ∧ w.cell? ⟨b, off + k * 3 + 1, none⟩ = some (.int .i64 a.fr) ∧ w.cell? ⟨b, off + k * 3 + 2, none⟩ = some (.int .i64 a.sl) := by
  have hne : l.map Rc.Dlv.row ≠ [] := by
    intro h0
    have : l = [] := by simpa using h0
    subst this
    simp at ha
  obtain ⟨b, off, e, hb, hc⟩ := h hne
  refine ⟨b, off, e, hb, fun k a ha => ?_⟩
  have hr : (l.map Rc.Dlv.row)[k]? = some a.row := by simp [ha]
  exact ⟨hc k _ hr 0 _ rfl, hc k _ hr 1 _ rfl, hc k _ hr 2 _ rfl⟩

theorem drop_of_get {α : Type} {l : List α} {k : Nat} {a : α} (h : l[k]? = some a) : l.drop k = a :: l.drop (k + 1) := by
  have hk : k < l.length := (List.getElem?_eq_some_iff.1 h).1
  rw [List.drop_eq_getElem_cons hk]
  have := (List.getElem?_eq_some_iff.1 h).2
  rw [this]

theorem get_of_lt {α : Type} {l : List α} {k : Nat} (h : k < l.length) : ∃ a, l[k]? = some a := ⟨l[k], List.getElem?_eq_getElem h⟩

theorem ints_get {l : List Int} {k : Nat} {x : Int} (h : l[k]? = some x) : (l.map (Value.int .i64))[k]? = some (.int .i64 x) := by rw [List.getElem?_map, h]; rfl
theorem ret_bool {a b : Bool} (h : a = b) : Ending.returned (.bool a) = .returned (.bool b) := by rw [h]
theorem ret_int {k : IntKind} {a b : Int} (h : a = b) : Ending.returned (.int k a) = .returned (.int k b) := by rw [h]

end Go.Proofs.Ytkdigdnacggknaa
/- A region that draws its order: first operations that are quiet in a class of worlds (reads, sums, calls whose answer hangs on nothing but the class), then a tail in one forced order that begins only when all of them are done. Generic. After the kit's Still, StillTail and Quiet, with a class of worlds in the place of one world. -/
namespace Go.Proofs.Ytkdigdnacggknaa
open Go.RowKit

section
variable {P : Program} {ops : Array Oper} {md : Region.Mode} {C : World → Prop}

/-- The head's operations in whatever order, each below n; then L. -/
def anyHead (P : Program) (md : Region.Mode) (ops : Array Oper) (C : World → Prop) (n : Nat) (L : Array Bool → Act → Prop) : Nat → Array Bool → Act → Prop
  | 0, listed, a => L listed a
  | f + 1, listed, a => Region.ready md ops listed ≠ [] ∧ ∀ i ∈ Region.ready md ops listed, i < n ∧ qOp P ops C i (anyHead P md ops C n L f (listed.setIfInBounds i true)) a

theorem anyHead_wp {n g : Nat} {L : Array Bool → Act → Prop} {Q : Exit → Act → World → Prop} (hL : ∀ listed a, L listed a → ∀ w, C w → wpAny P md ops Q g listed a w) :
    ∀ (f : Nat) (listed : Array Bool) (a : Act), anyHead P md ops C n L f listed a → ∀ w, C w → wpAny P md ops Q (f + g) listed a w
  | 0, listed, a, h, w, hw => by rw [Nat.zero_add]; exact hL _ _ h w hw
  | f + 1, listed, a, h, w, hw => by
    rw [show f + 1 + g = (f + g) + 1 by omega]
    exact ⟨fun h0 => absurd h0 h.1, fun i hi => wpOp_of_qOp hw (fun a' w' hw' h' => anyHead_wp hL f _ a' h' w' hw') (h.2 i hi).2⟩

theorem anyHead_first {n i : Nat} {oi : Oper} {v : Value} {L : Array Bool → Act → Prop} (hi : ops[i]? = some oi) (hsel : ∀ (j : Nat) (o : Oper) cs b, ops[j]? = some o → o.op ≠ .select cs b)
    (hs : Region.sinkB md ops n = true) (hc : Region.chainB md ops n = true) (hn : n < ops.size) (hin : i < n)
    (hdone : ∀ listed a, L listed a → ∀ j ∈ Region.ready md ops listed, n ≤ j) :
    ∀ (f : Nat) (listed : Array Bool) (a : Act), HeadInv md ops n listed →
      (∀ j oj, ops[j]? = some oj → j ≠ i → listed.getD j true = false → (∀ e ∈ oj.after, Region.binds md e = true → e.on ≠ i) → oi.apart ops oj = true) →
      i ∈ Region.ready md ops listed → YieldsIn P ops C oi v a →
      anyHead P md ops C n L f (listed.setIfInBounds i true) (a.put oi.dst v) → anyHead P md ops C n L (f + 1) listed a := by
  intro f
  induction f with
  | zero =>
    intro listed a inv _ hr hy H
    have hun := (mem_ready.1 hr).1
    refine ⟨fun h => (by rw [h] at hr; cases hr), fun j hj => ?_⟩
    have hjn : j < n := by
      rcases Nat.lt_or_ge j n with h | h
      · exact h
      · exact absurd hj (tail_waits hs hc hn inv _ i rfl hin hun j h)
    refine ⟨hjn, ?_⟩
    by_cases hji : j = i
    · subst hji; exact hy.qOp hi H
    · have := hdone _ _ H j (ready_mono hj hji)
      omega
  | succ f ih =>
    intro listed a inv hfree hr hy H
    have hun := (mem_ready.1 hr).1
    refine ⟨fun h => (by rw [h] at hr; cases hr), fun j hj => ?_⟩
    have hjn : j < n := by
      rcases Nat.lt_or_ge j n with h | h
      · exact h
      · exact absurd hj (tail_waits hs hc hn inv _ i rfl hin hun j h)
    refine ⟨hjn, ?_⟩
    by_cases hji : j = i
    · subst hji; exact hy.qOp hi H
    · have h1 := (H.2 j (ready_mono hj hji)).2
      obtain ⟨hjun, oj, hoj, hall⟩ := mem_ready.1 hj
      have hnot : ∀ e ∈ oj.after, Region.binds md e = true → e.on ≠ i := fun e he hb heq => by
        have h1 := hall e he hb
        rw [heq, getD_both hun] at h1
        cases h1
      have h2 := qOp_put hoj (hfree j oj hoj hji hjun hnot) (fun cs b => hsel i oi cs b hi) (fun cs b => hsel j oj cs b hoj) hy h1
      have hfree' : ∀ k ok, ops[k]? = some ok → k ≠ i → (listed.setIfInBounds j true).getD k true = false →
          (∀ e ∈ ok.after, Region.binds md e = true → e.on ≠ i) → oi.apart ops ok = true := fun k ok hk hki hun hno => by
        refine hfree k ok hk hki ?_ hno
        by_cases hjk : j = k
        · subst hjk; exact hjun
        · rw [getD_set_ne true hjk] at hun; exact hun
      refine qOp_mono (fun a' h3 => ih (listed.setIfInBounds j true) a' (inv.set hj hjn) hfree' (ready_mono hr (Ne.symm hji)) h3.1 ?_) h2
      rw [Array.setIfInBounds_comm _ _ hji]
      exact h3.2

theorem anyHead_lex {n g : Nat} {Lq : Act → Prop} (hsel : Region.noSelect ops = true) (hs : Region.sinkB md ops n = true) (hc : Region.chainB md ops n = true) (hn : n < ops.size) :
    ∀ (l : List Oper) (k : Nat) (listed : Array Bool) (a : Act), (∀ j, j < l.length → l[j]? = ops[k + j]?) → k + l.length = n → HeadInv md ops n listed →
    Region.lexHead md ops g l.length k listed = true → wpQuiet P ops C Lq l a →
    anyHead P md ops C n (fun listed' a' => Region.seqB md ops g n listed' = true ∧ Lq a') l.length listed a
  | [], k, listed, a, _, hk, _, hB, h => by
    have : k = n := by simpa using hk
    subst this
    exact ⟨by simpa [Region.lexHead] using hB, h⟩
  | o :: l, k, listed, a, hl, hk, inv, hB, h => by
    have h0 : ops[k]? = some o := by simpa using (hl 0 (by simp)).symm
    simp only [List.length_cons, Region.lexHead, Bool.and_eq_true] at hB
    obtain ⟨⟨hr, hf⟩, hB'⟩ := hB
    have hkn : k < n := by simp only [List.length_cons] at hk; omega
    have hr' : k ∈ Region.ready md ops listed := by simpa using hr
    have hst : qOp P ops C k (wpQuiet P ops C Lq l) a := by unfold qOp; simp only [h0]; exact h
    obtain ⟨v, hy, hK⟩ := yieldsIn_of_qOp h0 hst
    exact anyHead_first h0 (Region.noSelect_spec hsel) hs hc hn hkn (fun listed' a' hL => seqB_ready hL.1) l.length listed a inv (Region.free_spec h0 hf) hr' hy
      (anyHead_lex hsel hs hc hn l (k + 1) _ _ (fun j hj => by have := hl (j + 1) (by simp; omega); simpa [Nat.add_assoc, Nat.add_comm 1 j] using this) (by simp only [List.length_cons] at hk; omega) (inv.set hr' hkn) hB' hK)

theorem wp_region_quiet_tail {id : Nat} {Q : Exit → Act → World → Prop} {a : Act} {w : World} {l : List Oper} (n : Nat) (hm : P.follows .mixedOrders = true) (hB : Region.lexTailB .any l.toArray n = true) (hC : C { w with drawn := w.drawn + 1 })
    (h : wpQuiet P l.toArray C (fun a' => ∀ w', C w' → wpList P l.toArray Q (l.drop n) a' w') (l.take n) a) : (Code.region id l.toArray true).wp P Q a w := by
  simp only [Region.lexTailB, Bool.and_eq_true, decide_eq_true_eq] at hB
  obtain ⟨⟨⟨⟨hsel, hn⟩, hs⟩, hc⟩, hlex⟩ := hB
  have hn' : n < l.length := by simpa using hn
  have htl : (l.take n).length = n := by simp; omega
  have hdl : (l.drop n).length = l.toArray.size - n := by simp
  have inv0 : HeadInv .any l.toArray n (Array.replicate l.toArray.size false) :=
    ⟨by simp, fun j oj _ hl => (by rw [getD_replicate_false] at hl; cases hl), fun t _ ht => getD_in (by simpa using ht) (getD_replicate_false _ _)⟩
  have H := anyHead_lex (md := .any) (C := C) (g := l.toArray.size - n) hsel hs hc hn (l.take n) 0 _ a (fun j hj => by
    have hj' : j < n := by rw [htl] at hj; exact hj
    simp [hj']) (by simpa using htl) inv0 (by rw [htl]; exact hlex) h
  refine wp_region_any hm ?_
  have := anyHead_wp (Q := Q) (g := l.toArray.size - n) (fun listed a' hL w' hw' => by
    have := wpAny_of_seq (md := .any) (Q' := Q) (l.drop n) n listed a' w' (fun j => by simp [List.getElem?_drop]) (by rw [hdl]; exact hL.1) (hL.2 w' hw')
    rwa [hdl] at this) _ _ _ H _ hC
  rw [htl, show n + (l.toArray.size - n) = l.toArray.size by omega] at this
  exact this

/-- At the class 'as w below B', the operations written out. -/
theorem wp_region_ext_tail {id : Nat} {Q : Exit → Act → World → Prop} {a : Act} {w : World} {l : List Oper} (B n : Nat) (hm : P.follows .mixedOrders = true) (hB : Region.lexTailB .any l.toArray n = true)
    (h : wpQuiet P l.toArray (fun w' => ∃ x : ExtW B w, w' = x.val) (fun a' => ∀ w', (∃ x : ExtW B w, w' = x.val) → wpList P l.toArray Q (l.drop n) a' w') (l.take n) a) : (Code.region id l.toArray true).wp P Q a w :=
  wp_region_quiet_tail n hm hB ⟨⟨w.drew, (Below.refl _ _).drew⟩, rfl⟩ h

/-- In block b of w the cells cs lie. -/
def Row (w : World) (b : Nat) (cs : List Value) : Prop := ∀ i : Nat, w.cell? ⟨b, i, none⟩ = cs[i]?
theorem Row.below {w w' : World} {b B : Nat} {cs : List Value} (h : Row w b cs) (hb : Below B w w') (hB : b < B) : Row w' b cs := fun i => (hb.cell (p := ⟨b, i, none⟩) hB).trans (h i)
theorem Row.new (w : World) (cs : List Value) (t : TypeId) : Row (w.alloc (.cells cs.toArray t)) w.heap.size cs := fun i => by
  have h : (w.alloc (.cells cs.toArray t)).heap[w.heap.size]? = some (.cells cs.toArray t) := heap_alloc_new w _
  unfold World.cell?
  rw [show (⟨w.heap.size, i, none⟩ : Addr).block = w.heap.size from rfl, h]
  simp
theorem Row.new' {w : World} {b : Nat} (cs : List Value) (t : TypeId) (h : b = w.heap.size) : Row (w.alloc (.cells cs.toArray t)) b cs := by rw [h]; exact Row.new w cs t
theorem Row.alloc {w : World} {b : Nat} {cs : List Value} (h : Row w b cs) (hb : b < w.heap.size) (o : Obj) : Row (w.alloc o) b cs := fun i => (World.cell?_alloc_lt w o ⟨b, i, none⟩ hb).trans (h i)
theorem Row.drew {w : World} {b : Nat} {cs : List Value} (h : Row w b cs) : Row w.drew b cs := h
theorem Row.far {w : World} {b : Nat} {cs : List Value} (h : Row w b cs) {p : Addr} (hp : p.block ≠ b) (u : Value) : Row (w.setCell p u) b cs := fun i => (World.cell?_setCell_other w p ⟨b, i, none⟩ u (fun e => hp (by rw [e]))).trans (h i)
theorem Row.ints {w : World} {b : Nat} {l : List Int} (h : Row w b (l.map (Value.int .i64))) : ∀ k x, l[k]? = some x → w.cell? ⟨b, 0 + k, none⟩ = some (.int .i64 x) := fun k x hx => by
  rw [Nat.zero_add]; exact (h k).trans (ints_get hx)
theorem Row.ext {w : World} {b B : Nat} {cs : List Value} (h : Row w b cs) (hB : b < B) : ∀ (x : ExtW B w) (i : Nat), x.val.cell? ⟨b, i, none⟩ = cs[i]? := fun x i => (x.cell _ hB).trans (h i)

/-- A callee that leaves the world as it was. -/
theorem Calls.ext_same {f : FuncId} {args : Array Value} {w : World} {B : Nat} {x : ExtW B w} {v : Value}
    (h : Calls P f args x.val fun e w' => e = .returned v ∧ x.val = w') : Calls P f args x.val fun e w'' => e = .returned v ∧ ∃ y : ExtW B w, w'' = y.val :=
  h.mono fun _ _ ⟨he, hm⟩ => ⟨he, x, hm.symm⟩
end
end Go.Proofs.Ytkdigdnacggknaa
