import Derived.Test.YtkdigdnacggknaaZPure
/- Plain: flows, holdings, and what the node layer computes. No program's numbers. -/
namespace Go.Proofs.Ytkdigdnacggknaa
namespace Nd

structure Fl where
  (id fr tn pe ph dl : Int)
structure Hd where
  (fl fr : Int) (ak : List Int)

def inB (n lo hi : Int) : Bool := decide (lo ≤ n) && decide (n ≤ hi)
def boundsB (f : Fl) : Bool := inB f.id 0 255 && inB f.fr 0 31 && inB f.tn 0 31 && inB f.pe 1 512 && inB f.ph 0 (f.pe - 1) && inB f.dl 1 f.pe
def fault (f : Fl) : Int := if boundsB f = true then (if f.fr = f.tn then 1 else 0) else 2
theorem fault_cases (f : Fl) : fault f = 0 ∨ fault f = 1 ∨ fault f = 2 := by
  unfold fault; split
  · split <;> simp
  · simp
theorem fault_zero {f : Fl} (h : fault f = 0) : (0 ≤ f.id ∧ f.id ≤ 255) ∧ (0 ≤ f.fr ∧ f.fr ≤ 31) ∧ (0 ≤ f.tn ∧ f.tn ≤ 31) ∧ (1 ≤ f.pe ∧ f.pe ≤ 512) ∧ (0 ≤ f.ph ∧ f.ph ≤ f.pe - 1) ∧ (1 ≤ f.dl ∧ f.dl ≤ f.pe) ∧ f.fr ≠ f.tn := by
  unfold fault at h
  split at h
  · rename_i hb
    split at h
    · cases h
    · rename_i hne
      simp only [boundsB, inB, Bool.and_eq_true, decide_eq_true_eq] at hb
      obtain ⟨⟨⟨⟨⟨a, b⟩, c⟩, d⟩, e⟩, f'⟩ := hb
      exact ⟨a, b, c, d, e, f', hne⟩
  · cases h

/-- Is a flow's number not greater than that of the one ahead of it? -/
def notUp (p : Option Fl) (f : Fl) : Bool := match p with
  | none => false
  | some q => decide (f.id ≤ q.id)
def chkGo : Option Fl → Int → List Fl → Int × Int
  | _, _, [] => (-1, 0)
  | p, i, f :: l => if fault f = 0 then (if notUp p f = true then (i, 5) else chkGo (some f) (i + 1) l) else (i, fault f)
def chkF (l : List Fl) : Int × Int := if 16 < l.length then (-1, 8) else chkGo none 0 l

/-- The place of the first element of which p holds, or -1. -/
def idxP {α : Type} (p : α → Bool) : List α → Int → Int
  | [], _ => -1
  | a :: l, k => if p a = true then k else idxP p l (k + 1)
theorem idxP_spec {α : Type} (p : α → Bool) : ∀ (l : List α) (k : Int), (idxP p l k = -1 ∧ l.all (fun a => !p a) = true) ∨ ∃ (i : Nat) (a : α), l[i]? = some a ∧ p a = true ∧ idxP p l k = k + (i : Int) ∧ (l.take i).all (fun a => !p a) = true
  | [], k => .inl ⟨rfl, rfl⟩
  | a :: l, k => by
    unfold idxP
    by_cases h : p a = true
    · rw [if_pos h]; exact .inr ⟨0, a, rfl, h, by simp, rfl⟩
    · rw [if_neg h]
      rcases idxP_spec p l (k + 1) with ⟨h1, h2⟩ | ⟨i, b, h1, h2, h3, h4⟩
      · exact .inl ⟨h1, by simp [h, h2]⟩
      · exact .inr ⟨i + 1, b, by simpa using h1, h2, by rw [h3]; push_cast; omega, by simp [h, h4]⟩
def findF (l : List Fl) (id : Int) : Int := idxP (fun f => f.id == id) l 0
def findH (l : List Hd) (id : Int) : Int := idxP (fun h => h.fl == id) l 0

def cur (f : Fl) (slot : Int) : Int × Bool := if fault f = 0 ∧ f.ph ≤ slot ∧ slot ≤ 1099511627776 then ((slot - f.ph) / f.pe, true) else (0, false)

def akGo : Option Int → List Int → Bool
  | _, [] => true
  | p, n :: l => decide (0 ≤ n) && decide (n < 32) && (match p with | none => true | some q => decide (q < n)) && akGo (some n) l
def hdB (fs : List Fl) (p : Option Hd) (h : Hd) : Bool := decide (0 ≤ findF fs h.fl) && (match p with | none => true | some q => decide (q.fl < h.fl)) && decide (0 ≤ h.fr) && decide (h.fr ≤ 1073741824)
def hdGo (fs : List Fl) : Option Hd → List Hd → Bool
  | _, [] => true
  | p, h :: l => hdB fs p h && akGo none h.ak && hdGo fs (some h) l
def chkH (fs : List Fl) (l : List Hd) : Int := if (chkF fs).2 = 0 ∧ hdGo fs none l = true then 0 else 1
def chk (fs : List Fl) (self slot : Int) (l : List Hd) : Int := if chkH fs l = 0 then (if 0 ≤ self ∧ self < 32 ∧ 0 ≤ slot ∧ slot ≤ 1073741824 then 0 else 2) else 1

/-- A holding laid in its place. -/
def ins (l : List Hd) (h : Hd) : List Hd := l.takeWhile (fun x => decide (x.fl < h.fl)) ++ h :: l.dropWhile (fun x => decide (x.fl < h.fl))

def hear (fs : List Fl) (self slot : Int) (l : List Hd) (cf frame : Int) : List Hd × Bool × Int :=
  if chk fs self slot l = 0 then
    match fs[(findF fs cf).toNat]? with
    | none => (l, false, 0)
    | some f =>
      if findF fs cf < 0 ∨ 0 ≤ findH l cf then (l, false, 0)
      else if (cur f slot).2 = true ∧ (cur f slot).1 = frame then (ins l ⟨cf, frame, []⟩, f.tn == self, 0) else (l, false, 0)
  else ([], false, chk fs self slot l)

end Nd
end Go.Proofs.Ytkdigdnacggknaa
/- Plain: what the monitor layer computes: late frames, the service of a flow, strays, deliveries twice. No program's numbers. -/
namespace Go.Proofs.Ytkdigdnacggknaa
open Rc Nd
namespace Mo

/-- A late frame. -/
structure Lt where
  (fl fr sl : Int)
deriving DecidableEq

def complete (f : Fl) (slots : Int) : Int := if 0 ≤ slots - f.ph - f.dl then (slots - f.ph - f.dl) / f.pe + 1 else 0
/-- The slots in which a frame was delivered, in order. -/
def slotsOf (dl : List Dlv) (fl fr : Int) : List Int := (dl.filter (fun d => d.fl == fl && d.fr == fr)).map Dlv.sl
def arrGo (first due last : Int) : List Int → Int → Int × Bool
  | [], late => (late, false)
  | s :: l, late => if first ≤ s ∧ s ≤ due then (s, true) else if due < s ∧ s ≤ last ∧ late < 0 then arrGo first due last l s else arrGo first due last l late
def rel (f : Fl) (n : Int) : Int := f.ph + n * f.pe
def arrival (f : Fl) (n : Int) (l : List Int) : Int × Bool := arrGo (rel f n) (rel f n + f.dl - 1) (rel f n + f.pe - 1) l (-1)
def lateN (f : Fl) (dl : List Dlv) (n : Nat) : List Lt := if (arrival f n (slotsOf dl f.id n)).2 = true then [] else [⟨f.id, n, (arrival f n (slotsOf dl f.id n)).1⟩]
def lateF (f : Fl) (r : Rec) : List Lt := (List.range (complete f r.slots).toNat).flatMap (lateN f r.dl)
def right (fs : List Fl) (r : Rec) : Bool := decide ((chkF fs).2 = 0) && good r
def late (fs : List Fl) (r : Rec) : List Lt × Int := if right fs r = true then (fs.flatMap (fun f => lateF f r), 0) else ([], 1)

/-- The first slot from one to another in which a frame was delivered, or -1. -/
def deliv (dl : List Dlv) (fl fr a b : Int) : Int := ((slotsOf dl fl fr).find? (fun s => decide (a ≤ s) && decide (s ≤ b))).getD (-1)
theorem arr_late (first due last : Int) : ∀ (l : List Int) (late : Int), 0 ≤ late → arrGo first due last l late = match l.find? (fun s => decide (first ≤ s) && decide (s ≤ due)) with | some s => (s, true) | none => (late, false)
  | [], late, _ => rfl
  | s :: l, late, h => by
    unfold arrGo
    by_cases h1 : first ≤ s ∧ s ≤ due
    · rw [if_pos h1, List.find?_cons_of_pos (by simpa using h1)]
    · rw [if_neg h1, List.find?_cons_of_neg (by simpa using h1), if_neg (by omega)]
      exact arr_late first due last l late h
theorem arr_first (first due last : Int) : ∀ (l : List Int), (∀ s ∈ l, 0 ≤ s) → arrGo first due last l (-1) = match l.find? (fun s => decide (first ≤ s) && decide (s ≤ due)) with | some s => (s, true) | none => ((l.find? (fun s => decide (due + 1 ≤ s) && decide (s ≤ last))).getD (-1), false)
  | [], _ => rfl
  | s :: l, h => by
    unfold arrGo
    by_cases h1 : first ≤ s ∧ s ≤ due
    · rw [if_pos h1, List.find?_cons_of_pos (by simpa using h1)]
    · rw [if_neg h1, List.find?_cons_of_neg (by simpa using h1)]
      by_cases h2 : due < s ∧ s ≤ last
      · rw [if_pos ⟨h2.1, h2.2, by omega⟩, arr_late first due last l s (h s List.mem_cons_self), List.find?_cons_of_pos (by simp; omega)]
        rfl
      · rw [if_neg (fun h => h2 ⟨h.1, h.2.1⟩), arr_first first due last l (fun x hx => h x (List.mem_cons_of_mem _ hx)), List.find?_cons_of_neg (by simp; omega)]
theorem mem_slotsOf {dl : List Dlv} {fl fr s : Int} (h : s ∈ slotsOf dl fl fr) : ∃ d ∈ dl, d.fl = fl ∧ d.fr = fr ∧ d.sl = s := by
  obtain ⟨d, hd, rfl⟩ := List.mem_map.1 h
  obtain ⟨h1, h2⟩ := List.mem_filter.1 hd
  rw [Bool.and_eq_true, beq_iff_eq, beq_iff_eq] at h2
  exact ⟨d, h1, h2.1, h2.2, rfl⟩
/-- What arrives is what the definition calls delivered. -/
theorem arrival_eq {f : Fl} {dl : List Dlv} (hd : ∀ d ∈ dl, 0 ≤ d.sl) (n : Int) : arrival f n (slotsOf dl f.id n) = if deliv dl f.id n (rel f n) (rel f n + f.dl - 1) < 0 then (deliv dl f.id n (rel f n + f.dl) (rel f n + f.pe - 1), false) else (deliv dl f.id n (rel f n) (rel f n + f.dl - 1), true) := by
  have hs : ∀ s ∈ slotsOf dl f.id n, 0 ≤ s := fun s hs => by
    obtain ⟨d, h1, _, _, h2⟩ := mem_slotsOf hs
    rw [← h2]; exact hd d h1
  unfold arrival
  rw [arr_first _ _ _ _ hs]
  unfold deliv
  cases hq : (slotsOf dl f.id n).find? (fun s => decide (rel f n ≤ s) && decide (s ≤ rel f n + f.dl - 1)) with
  | some s =>
    have := hs s (List.mem_of_find?_eq_some hq)
    rw [Option.getD_some, if_neg (by omega)]
  | none =>
    rw [Option.getD_none, if_pos (by decide)]
    simp only [Prod.mk.injEq, and_true]
    congr 2
    funext s
    rw [show rel f n + f.dl - 1 + 1 = rel f n + f.dl by omega]

/-- The service of a flow. -/
structure Sv where
  (fr late att lost least most : Int)
deriving DecidableEq
def Sv.zero : Sv := ⟨0, 0, 0, 0, 0, 0⟩
/-- late, least, most behind frame n -/
def svStep (f : Fl) (dl : List Dlv) (a : Int × Int × Int) (n : Nat) : Int × Int × Int :=
  if (arrival f n (slotsOf dl f.id n)).2 = true then
    (a.1, if a.2.1 = 0 ∨ (arrival f n (slotsOf dl f.id n)).1 - rel f n + 1 < a.2.1 then (arrival f n (slotsOf dl f.id n)).1 - rel f n + 1 else a.2.1, max a.2.2 ((arrival f n (slotsOf dl f.id n)).1 - rel f n + 1))
  else (a.1 + 1, a.2.1, a.2.2)
def svGo (f : Fl) (dl : List Dlv) (k : Nat) : Int × Int × Int := (List.range k).foldl (svStep f dl) (0, 0, 0)
def cntAtt (al : List Att) (id : Int) : Int := ((al.filter (fun a => a.cl == id && !(a.o == 4))).length : Nat)
def cntLost (al : List Att) (id : Int) : Int := ((al.filter (fun a => a.cl == id && !(a.o == 4) && !(a.o == 1))).length : Nat)
def serveF (f : Fl) (r : Rec) : Sv :=
  ⟨complete f r.slots, (svGo f r.dl (complete f r.slots).toNat).1, cntAtt r.al f.id, cntLost r.al f.id, (svGo f r.dl (complete f r.slots).toNat).2.1, (svGo f r.dl (complete f r.slots).toNat).2.2⟩
def serve (fs : List Fl) (r : Rec) (id : Int) : Sv × Int :=
  if right fs r = true then (match fs.find? (fun f => f.id == id) with | none => (Sv.zero, 7) | some f => (serveF f r, 0)) else (Sv.zero, 1)

/-- Whether an attempt's frame can be under way. -/
def onWay (fs : List Fl) (a : Att) : Bool := match fs.find? (fun f => f.id == a.cl) with | none => false | some f => (cur f a.s).2 && (cur f a.s).1 == a.f
def stray (fs : List Fl) (r : Rec) : List Att × Int := if right fs r = true then (r.al.filter (fun a => !onWay fs a), 0) else ([], 1)
def sameFr (x y : Dlv) : Bool := x.fl == y.fl && x.fr == y.fr
def twGo : List Dlv → List Dlv → List Dlv
  | _, [] => []
  | S, d :: l => if S.any (sameFr d) = true then d :: twGo (S ++ [d]) l else twGo (S ++ [d]) l
def twice (r : Rec) : List Dlv × Int := if good r = true then (twGo [] r.dl, 0) else ([], 1)
end Mo
end Go.Proofs.Ytkdigdnacggknaa
/- Plain laws of the monitor layer: how the reference counts frames; MonitorCounts. No program's numbers. -/
namespace Go.Proofs.Ytkdigdnacggknaa
open Rc Nd
namespace Mo
/-- Flows without a fault, their numbers ascending. -/
theorem chkGo_ok : ∀ (l : List Fl) (p : Option Fl) (i : Int), (chkGo p i l).2 = 0 → (∀ f ∈ l, fault f = 0) ∧ (∀ q, p = some q → ∀ f ∈ l, q.id < f.id) ∧ l.Pairwise (fun a b => a.id < b.id)
  | [], _, _, _ => ⟨fun _ h => (by cases h), fun _ _ _ h => (by cases h), List.Pairwise.nil⟩
  | f :: l, p, i, h => by
    unfold chkGo at h
    split at h
    · rename_i hf
      split at h
      · cases h
      · rename_i hn
        obtain ⟨i1, i2, i3⟩ := chkGo_ok l (some f) (i + 1) h
        have i2' := i2 f rfl
        refine ⟨fun g hg => ?_, fun q hq g hg => ?_, List.Pairwise.cons i2' i3⟩
        · rcases List.mem_cons.1 hg with rfl | hg
          · exact hf
          · exact i1 g hg
        · subst hq
          have h4 : q.id < f.id := by
            simp only [notUp, decide_eq_true_eq] at hn
            omega
          rcases List.mem_cons.1 hg with rfl | hg
          · exact h4
          · have := i2' g hg; omega
    · rename_i hf
      exact absurd h hf
theorem chkF_ok {l : List Fl} (h : (chkF l).2 = 0) : (∀ f ∈ l, fault f = 0) ∧ l.Pairwise (fun a b => a.id < b.id) ∧ l.length ≤ 16 := by
  unfold chkF at h
  split at h
  · cases h
  · rename_i hl
    have := chkGo_ok l none 0 h
    exact ⟨this.1, this.2.2, by omega⟩
theorem right_inv {fs : List Fl} {r : Rec} (h : right fs r = true) : (chkF fs).2 = 0 ∧ good r = true := by
  unfold right at h
  rw [Bool.and_eq_true, decide_eq_true_eq] at h
  exact h
theorem good_slots {r : Rec} (h : good r = true) : 0 ≤ r.slots ∧ r.slots ≤ 4096 := by
  simp only [good, Bool.and_eq_true, decide_eq_true_eq] at h
  exact ⟨h.1, h.2.1⟩
theorem dlvsGo_mem {slots : Int} : ∀ (l : List Dlv) (p : Option Dlv), dlvsGo slots p l = true → ∀ d ∈ l, dlvB d slots = true
  | [], _, _, d, hd => by cases hd
  | a :: l, p, h, d, hd => by
    rw [dlvsGo] at h
    split at h
    · cases h
    · rename_i hb
      split at h
      · cases h
      · rcases List.mem_cons.1 hd with rfl | hd
        · simpa using hb
        · exact dlvsGo_mem l _ h d hd
theorem good_dlv {r : Rec} (h : good r = true) {d : Dlv} (hd : d ∈ r.dl) : 0 ≤ d.sl ∧ d.sl < r.slots ∧ 0 ≤ d.fl ∧ d.fl < 256 ∧ 0 ≤ d.fr ∧ d.fr < 1048576 := by
  simp only [good, Bool.and_eq_true] at h
  have := dlvsGo_mem r.dl none h.2.2.2.2.2 d hd
  simp only [dlvB, belowB, Bool.and_eq_true, decide_eq_true_eq] at this
  obtain ⟨⟨a, b⟩, ⟨c, e⟩, f, g⟩ := this
  exact ⟨f, g, a, b, c, e⟩
theorem good_len {r : Rec} (h : good r = true) : r.al.length ≤ 65536 ∧ r.dl.length ≤ 65536 := by
  simp only [good, Bool.and_eq_true, decide_eq_true_eq] at h
  exact ⟨h.2.2.1, h.2.2.2.1⟩
/-- Which frames are complete. -/
theorem complete_iff {f : Fl} (h : fault f = 0) (slots : Int) (n : Nat) : rel f n + f.dl ≤ slots ↔ n < (complete f slots).toNat := by
  obtain ⟨_, _, _, ⟨hp, _⟩, ⟨hph, _⟩, _, _⟩ := fault_zero h
  unfold rel complete
  split
  · rename_i h0
    have hq : 0 ≤ (slots - f.ph - f.dl) / f.pe := Int.ediv_nonneg h0 (by omega)
    have h1 : ((n : Int) ≤ (slots - f.ph - f.dl) / f.pe) ↔ (n : Int) * f.pe ≤ slots - f.ph - f.dl := Int.le_ediv_iff_mul_le (by omega)
    omega
  · rename_i h0
    have : 0 ≤ (n : Int) * f.pe := Int.mul_nonneg (by omega) (by omega)
    omega
theorem complete_bounds {f : Fl} (h : fault f = 0) {slots : Int} (hs : slots ≤ 4096) : 0 ≤ complete f slots ∧ complete f slots ≤ 4096 := by
  obtain ⟨_, _, _, ⟨hp, _⟩, ⟨hph, _⟩, ⟨hd, _⟩, _⟩ := fault_zero h
  unfold complete
  split
  · rename_i h0
    have hq : 0 ≤ (slots - f.ph - f.dl) / f.pe := Int.ediv_nonneg h0 (by omega)
    have : (slots - f.ph - f.dl) / f.pe ≤ slots - f.ph - f.dl := Int.ediv_le_self _ h0
    omega
  · omega
theorem find_self_ {l : List Fl} (hp : l.Pairwise (fun a b => a.id < b.id)) {f : Fl} (hf : f ∈ l) : l.find? (fun g => g.id == f.id) = some f := by
  cases hq : l.find? (fun g => g.id == f.id) with
  | none => exact absurd (List.find?_eq_none.1 hq f hf) (by simp)
  | some a =>
    have ha : a.id = f.id := by simpa using List.find?_some hq
    have hm := List.mem_of_find?_eq_some hq
    obtain ⟨i, hi, rfl⟩ := List.getElem_of_mem hm
    obtain ⟨j, hj, rfl⟩ := List.getElem_of_mem hf
    have hpw := List.pairwise_iff_getElem.1 hp
    rcases Nat.lt_trichotomy i j with h | h | h
    · have := hpw i j hi hj h; omega
    · subst h; rfl
    · have := hpw j i hj hi h; omega

/-- What has been counted behind k frames. -/
theorem svGo_inv {f : Fl} (_h : fault f = 0) (dl : List Dlv) (k : Nat) :
    ∃ ln : Nat, (svGo f dl k).1 = (ln : Int) ∧ ((List.range k).flatMap (lateN f dl)).length = ln ∧ ln ≤ k ∧
      ((ln < k → 1 ≤ (svGo f dl k).2.1 ∧ (svGo f dl k).2.1 ≤ (svGo f dl k).2.2 ∧ (svGo f dl k).2.2 ≤ f.dl) ∧ (ln = k → (svGo f dl k).2.1 = 0 ∧ (svGo f dl k).2.2 = 0)) := by
  induction k with
  | zero => exact ⟨0, rfl, rfl, Nat.le_refl _, fun h => absurd h (by omega), fun _ => ⟨rfl, rfl⟩⟩
  | succ k ih =>
    obtain ⟨ln, h1, h2, h3, h4, h5⟩ := ih
    have hs : svGo f dl (k + 1) = svStep f dl (svGo f dl k) k := by
      unfold svGo
      rw [List.range_succ, List.foldl_append]
      rfl
    have hl : ((List.range (k + 1)).flatMap (lateN f dl)).length = ln + (lateN f dl k).length := by
      rw [List.range_succ, List.flatMap_append, List.length_append, h2]
      simp
    rw [hs, hl]
    unfold svStep lateN
    by_cases hq : (arrival f k (slotsOf dl f.id k)).2 = true
    · rw [if_pos hq, if_pos hq]
      have hb : rel f k ≤ (arrival f k (slotsOf dl f.id k)).1 ∧ (arrival f k (slotsOf dl f.id k)).1 ≤ rel f k + f.dl - 1 := by
        unfold arrival at hq ⊢
        revert hq
        generalize (-1 : Int) = late
        induction slotsOf dl f.id k generalizing late with
        | nil => intro hq; cases hq
        | cons s l ih2 =>
          unfold arrGo
          split
          · rename_i hh; intro _; exact hh
          · split
            · exact ih2 _
            · exact ih2 _
      generalize (arrival f k (slotsOf dl f.id k)).1 = s at hb ⊢
      refine ⟨ln, h1, by simp, by omega, fun _ => ?_, fun h => absurd h (by omega)⟩
      dsimp only
      by_cases hk : ln < k
      · obtain ⟨a1, a2, a3⟩ := h4 hk
        split <;> (refine ⟨?_, ?_, ?_⟩ <;> omega)
      · obtain ⟨a1, a2⟩ := h5 (by omega)
        rw [if_pos (.inl a1), a2]
        refine ⟨?_, ?_, ?_⟩ <;> omega
    · rw [if_neg hq, if_neg hq]
      refine ⟨ln + 1, by simp [h1], by simp, by omega, fun h => ?_, fun h => ?_⟩
      · exact h4 (by omega)
      · exact h5 (by omega)
theorem late_of {f g : Fl} {r : Rec} (hne : g.id ≠ f.id) : (lateF g r).filter (fun x => x.fl == f.id) = [] := by
  rw [List.filter_eq_nil_iff]
  intro x hx
  obtain ⟨n, _, hn⟩ := List.mem_flatMap.1 hx
  unfold lateN at hn
  split at hn
  · cases hn
  · obtain rfl := List.mem_singleton.1 hn
    simpa using hne
theorem late_own {f : Fl} {r : Rec} : (lateF f r).filter (fun x => x.fl == f.id) = lateF f r := by
  rw [List.filter_eq_self]
  intro x hx
  obtain ⟨n, _, hn⟩ := List.mem_flatMap.1 hx
  unfold lateN at hn
  split at hn
  · cases hn
  · obtain rfl := List.mem_singleton.1 hn
    simp
theorem late_filter {f : Fl} {r : Rec} : ∀ (l : List Fl), l.Pairwise (fun a b => a.id < b.id) → f ∈ l → (l.flatMap (fun f => lateF f r)).filter (fun x => x.fl == f.id) = lateF f r
  | [], _, h => by cases h
  | g :: l, hp, h => by
    rw [List.flatMap_cons, List.filter_append]
    obtain ⟨h1, h2⟩ := List.pairwise_cons.1 hp
    rcases List.mem_cons.1 h with rfl | h
    · rw [late_own]
      have : (l.flatMap (fun f => lateF f r)).filter (fun x => x.fl == f.id) = [] := by
        rw [List.filter_eq_nil_iff]
        intro x hx
        obtain ⟨g, hg, hx⟩ := List.mem_flatMap.1 hx
        have := h1 g hg
        have h3 := late_of (f := f) (g := g) (r := r) (by omega)
        have := (List.filter_eq_nil_iff.1 h3) x hx
        exact this
      rw [this, List.append_nil]
    · have := h1 f h
      rw [late_of (by omega), List.nil_append]
      exact late_filter l h2 h
/-- MonitorCounts in plain terms. -/
theorem counts_law {fs : List Fl} {r : Rec} (h : right fs r = true) {f : Fl} (hf : f ∈ fs) :
    ∃ s, serve fs r f.id = (s, 0) ∧ s.late = ((((late fs r).1.filter (fun x => x.fl == f.id)).length : Nat) : Int) ∧ s.late ≤ s.fr ∧ s.lost ≤ s.att ∧ s.least ≤ s.most ∧ s.most ≤ f.dl ∧ (s.most > 0 ↔ s.fr > s.late) ∧ (s.least > 0 ↔ s.most > 0) := by
  obtain ⟨hc, hg⟩ := right_inv h
  obtain ⟨hfa, hpw, _⟩ := chkF_ok hc
  refine ⟨serveF f r, ?_, ?_⟩
  · unfold serve
    rw [if_pos h, find_self_ hpw hf]
  · have hl : (late fs r).1 = fs.flatMap (fun f => lateF f r) := by unfold late; rw [if_pos h]
    rw [hl, late_filter fs hpw hf]
    obtain ⟨_, _, _, ⟨hp1, _⟩, _, ⟨hd1, _⟩, _⟩ := fault_zero (hfa f hf)
    obtain ⟨hs0, hs1⟩ := good_slots hg
    obtain ⟨hc0, _⟩ := complete_bounds (hfa f hf) hs1
    obtain ⟨ln, g1, g2, g3, g4, g5⟩ := svGo_inv (hfa f hf) r.dl (complete f r.slots).toNat
    have hlost : (cntLost r.al f.id) ≤ cntAtt r.al f.id := by
      unfold cntLost cntAtt
      have : (r.al.filter (fun a => a.cl == f.id && !(a.o == 4) && !(a.o == 1))) = (r.al.filter (fun a => a.cl == f.id && !(a.o == 4))).filter (fun a => !(a.o == 1)) := by
        rw [List.filter_filter]
        congr 1
        funext a
        rw [Bool.and_comm]
      rw [this]
      have := List.length_filter_le (fun a : Att => !(a.o == 1)) (r.al.filter (fun a => a.cl == f.id && !(a.o == 4)))
      omega
    have hlen : (lateF f r).length = ln := g2
    rw [hlen]
    show (svGo f r.dl (complete f r.slots).toNat).1 = _ ∧ (svGo f r.dl (complete f r.slots).toNat).1 ≤ complete f r.slots ∧ cntLost r.al f.id ≤ cntAtt r.al f.id ∧ (svGo f r.dl (complete f r.slots).toNat).2.1 ≤ (svGo f r.dl (complete f r.slots).toNat).2.2 ∧ (svGo f r.dl (complete f r.slots).toNat).2.2 ≤ f.dl ∧
      ((svGo f r.dl (complete f r.slots).toNat).2.2 > 0 ↔ complete f r.slots > (svGo f r.dl (complete f r.slots).toNat).1) ∧ ((svGo f r.dl (complete f r.slots).toNat).2.1 > 0 ↔ (svGo f r.dl (complete f r.slots).toNat).2.2 > 0)
    rw [g1]
    generalize (svGo f r.dl (complete f r.slots).toNat).2.1 = le at *
    generalize (svGo f r.dl (complete f r.slots).toNat).2.2 = mo at *
    by_cases hk : ln < (complete f r.slots).toNat
    · obtain ⟨b1, b2, b3⟩ := g4 hk
      refine ⟨rfl, ?_, hlost, ?_, ?_, ?_, ?_⟩ <;> omega
    · obtain ⟨b1, b2⟩ := g5 (by omega)
      refine ⟨rfl, ?_, hlost, ?_, ?_, ?_, ?_⟩ <;> omega
end Mo
end Go.Proofs.Ytkdigdnacggknaa
