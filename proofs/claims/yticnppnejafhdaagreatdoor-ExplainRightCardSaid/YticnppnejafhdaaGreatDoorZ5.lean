import Derived.Laws.OwnMore
import Derived.Laws.CopyRow
import Derived.Shelf.Strings.Count
import Derived.WalkKit
import Derived.ProofKit
import Derived.OpenShut
import Derived.Carry
import Derived.ChangeSame
import Derived.Deep.Slices
import Derived.LaidMore
import Derived.Stop.Joined
import Derived.Below
import Derived.Stop.LaidErr
import Derived.Test.YticnppnejafhdaaGreatDoorZ4
import Derived.Test.YticnppnejafhdaaGreatDoorProg
import Derived.Test.YticnppnejafhdaaGreatDoorRows
set_option linter.unusedVariables false
set_option linter.unusedSimpArgs false
/- Walk: Attempts of package record. -/
namespace Go.Proofs.YticnppnejafhdaaGreatDoor
open Go.RowKit
open Rc
theorem Tryz.infoAtt : (Tryz.prog.info? 66).map (fun i => (i.zero, i.size, i.bytes)) = some (some (.agg #[.int .i64 0, .int .i64 0, .int .i64 0, .int .i64 0, .int .i64 0, .int .i64 0, .int .i64 0, .int .i64 0]), 8, 64) := by kernel_rfl
/-- The attempts of a frame. -/
def ofFrame (l : List Att) (flow frame : Int) : List Att := l.filter fun a => a.cl == flow && a.f == frame

theorem own_weak {w : World} {base base' : Nat} {e : TypeId} {size : Nat} {v : Value} {n : Nat} {xs : List Value} (h : w.ownsRow base e size v n xs) (hb : base' ≤ base) : w.ownsRow base' e size v n xs := by
  obtain ⟨h1, h2⟩ := h
  refine ⟨h1, ?_⟩
  rcases h2 with h2 | ⟨g, cap, cur, e1, e2, e3⟩
  · exact Or.inl h2
  · exact Or.inr ⟨g, cap, cur, e1, Nat.le_trans hb e2, e3⟩
set_option maxRecDepth 100000 in
set_option maxHeartbeats 8000000 in
theorem attempts2_any (r : Rec) (A D : Option Addr) (ca cd : Nat) (flow frame : Int) (w : World) (hA : LiesA w w.heap.size A r.al) (hla : r.al.length ≤ 1000000) :
    Calls Tryz.prog 73 #[.agg #[.int .i64 r.slots, .slice A r.al.length ca, .slice D r.dl.length cd], .int .i64 flow, .int .i64 frame] w fun e w' => Below w.heap.size w w' ∧ ∃ va, e = .returned va ∧ w'.ownsRow w.heap.size 66 8 va (ofFrame r.al flow frame).length (flatA (ofFrame r.al flow frame)) := by
  obtain ⟨slots, al, dl⟩ := r
  dsimp only at *
  obtain ⟨na, hna⟩ : ∃ n, n = al.length := ⟨_, rfl⟩
  obtain ⟨nd, hnd⟩ : ∃ n, n = dl.length := ⟨_, rfl⟩
  rw [← hna, ← hnd]
  rw [← hna] at hla
  have HA := Lib.hid hna
  clear hna hnd
  obtain ⟨F, hF⟩ : ∃ F, F = ofFrame al flow frame := ⟨_, rfl⟩
  rw [← hF]
  have HF := Lib.hid hF
  clear hF
  obtain ⟨i0, hi, hz0, hz1, hz2⟩ := info_parts Tryz.infoAtt
  go_enter Tryz.func73, Tryz.ntmps73
  go_wp2_with fail
  generalize hW0 : World.alloc _ _ = W0
  have bR : Blk W0 w.heap.size 35 [.int .i64 slots, .slice A na ca, .slice D nd cd] := by rw [← hW0]; exact Blk.new' _ [.int .i64 slots, .slice A na ca, .slice D nd cd] rfl
  have hb0 : Below w.heap.size w W0 := by rw [← hW0]; exact (Below.refl _ _).alloc (Nat.le_refl _) _
  clear hW0
  obtain ⟨N, hN⟩ : ∃ N, N = w.heap.size := ⟨_, rfl⟩
  rw [← hN] at bR hb0 ⊢
  have hA' : LiesA w N A al := by rw [hN]; exact hA
  have HN := Lib.hid hN
  clear hN hA
  go_loopw [7, 14] (fun s7 i wr => ∃ (k : Nat) (acc : List Att) (va : Value), va = s7 ∧ k ≤ na ∧ i = .int .i64 k ∧ acc.length ≤ k ∧ wr.ownsRow (N + 1) 66 8 va acc.length (flatA acc) ∧ Below N w wr ∧ N + 1 ≤ wr.heap.size ∧ Hid (F = acc ++ ofFrame (al.drop k) flow frame)) (fun _ i _ => na - (intOf i).toNat)
  case atStart => exact ⟨0, [], _, rfl, Nat.zero_le _, rfl, Nat.le_refl _, World.ownsRow_nil _ _ _ _, hb0, bR.lt, Lib.hid (by rw [HF.out]; simp)⟩
  case round =>
    obtain ⟨k, acc, va, rfl, hk, rfl, hal, hown, hb, hMw, hst⟩ := hrel
    by_cases hlt : k < na
    · obtain ⟨a, ha⟩ := get_of_lt (l := al) (k := k) (by rw [← HA.out]; exact hlt)
      obtain ⟨b, off, rfl, hbB, hcs⟩ := (hA'.below hb).at_ ha
      obtain ⟨c0, c1, c2, c3, c4, c5, c6, c7⟩ := hcs k a ha
      have hd := Lib.hid (drop_of_get ha)
      have hvl : ∀ g, va.ownBlock = some g → N + 1 ≤ g ∧ g < wr.heap.size := hown.lt
      have HV := Lib.hid hvl
      clear hcs ha hvl
      go_upto_region 5 with fail
      generalize hW1 : wr.alloc _ = W1
      have ba : Blk W1 wr.heap.size 66 [.int .i64 a.s, .int .i64 a.f, .int .i64 a.cs, .int .i64 a.co, .int .i64 a.cf, .int .i64 a.ct, .int .i64 a.cl, .int .i64 a.o] := by rw [← hW1]; exact Blk.new' _ [.int .i64 a.s, .int .i64 a.f, .int .i64 a.cs, .int .i64 a.co, .int .i64 a.cf, .int .i64 a.ct, .int .i64 a.cl, .int .i64 a.o] rfl
      have hb1 : Below N w W1 := by rw [← hW1]; exact hb.alloc (by omega) _
      have hsz : wr.heap.size + 1 ≤ W1.heap.size := by rw [← hW1]; simp
      have hown1 : W1.ownsRow (N + 1) 66 8 va acc.length (flatA acc) := by rw [← hW1]; exact hown.alloc _
      have ca := ba.row
      unfold Row at ca
      clear hW1 c0 c1 c2 c3 c4 c5 c6 c7 hown
      by_cases hm : a.cl = flow ∧ a.f = frame
      · obtain ⟨h1, h2⟩ := hm
        have e1 : (a.cl == flow) = true := by simp [h1]
        have e2 : (a.f == frame) = true := by simp [h2]
        have hst' : Hid (F = (acc ++ [a]) ++ ofFrame (al.drop (k + 1)) flow frame) := Lib.hid (by rw [hst.out, hd.out]; simp [ofFrame, h1, h2])
        have HO := Lib.hid hown1
        clear hown1 hst h1 h2
        go_wp2_with (at_builtin; refine wpList_append_own_at _ rfl (.tmp 29) (.tmp 31) 30 rfl (N + 1) 66 i0 (.agg #[.int .i64 0, .int .i64 0, .int .i64 0, .int .i64 0, .int .i64 0, .int .i64 0, .int .i64 0, .int .i64 0]) 8 64 Tryz.underlying30 hi hz0 hz1 hz2 rfl (by decide) va acc.length (flatA acc) rfl (HO.out.alloc _) ⟨W1.heap.size, 0, none⟩ 1 1 [.int .i64 a.s, .int .i64 a.f, .int .i64 a.cs, .int .i64 a.co, .int .i64 a.cf, .int .i64 a.ct, .int .i64 a.cl, .int .i64 a.o] rfl rfl ?e0 ?e1 ?e2 ?e3 ?e4 ?_)
        case e0 => exact (Blk.new' 66 [.int .i64 a.s, .int .i64 a.f, .int .i64 a.cs, .int .i64 a.co, .int .i64 a.cf, .int .i64 a.ct, .int .i64 a.cl, .int .i64 a.o] rfl).news
        case e1 => exact ints_one (l := [a.s, a.f, a.cs, a.co, a.cf, a.ct, a.cl, a.o])
        case e2 => unfold maxLen; omega
        case e3 => omega
        case e4 => simp; omega
        intro v3 w3 ho3 hg3 hnil3 hat3
        clear hnil3 hat3
        have hb3 : Below N w w3 := (hb1.alloc (by omega) _).grown hg3 (by simp; omega) (by intro g hg; have := HV.out g hg; omega)
        have hz3 : N + 1 ≤ w3.heap.size := by have := hg3.size; simp at this; omega
        have O3 : w3.ownsRow (N + 1) 66 8 v3 (acc ++ [a]).length (flatA (acc ++ [a])) := by simpa [flatA, Att.row] using ho3
        obtain ⟨A3, c3, hv3⟩ := own_form ho3
        clear ho3 hg3 HO
        subst hv3
        go_wp2_with fail
        go_roundw
        case rel => exact ⟨k + 1, acc ++ [a], _, rfl, by omega, by go_num, by simp; omega, O3, hb3, hz3, hst'⟩
        case measure => simp [intOf]; omega
      · have hst' : Hid (F = acc ++ ofFrame (al.drop (k + 1)) flow frame) := Lib.hid (by
          rw [hst.out, hd.out]
          have : (a.cl == flow && a.f == frame) = false := by
            rw [Bool.eq_false_iff]
            intro h
            simp at h
            exact hm h
          simp only [ofFrame, List.filter_cons, this, Bool.false_eq_true, if_false])
        clear hst
        by_cases h1 : a.cl = flow
        · have h2 : ¬ a.f = frame := fun h => hm ⟨h1, h⟩
          have e1 : (a.cl == flow) = true := by simp [h1]
          have e2 : (a.f == frame) = false := by simp [h2]
          go_wp2_with fail
          go_roundw
          case rel => exact ⟨k + 1, acc, _, rfl, by omega, by go_num, by omega, hown1, hb1, by omega, hst'⟩
          case measure => simp [intOf]; omega
        · have e1 : (a.cl == flow) = false := by simp [h1]
          go_wp2_with fail
          go_roundw
          case rel => exact ⟨k + 1, acc, _, rfl, by omega, by go_num, by omega, hown1, hb1, by omega, hst'⟩
          case measure => simp [intOf]; omega
    · have hst' : Hid (F = acc) := Lib.hid (by rw [hst.out, List.drop_of_length_le (by rw [← HA.out]; omega)]; simp [ofFrame])
      obtain ⟨A3, c3, hv3⟩ := own_form hown
      have HO := Lib.hid hown
      clear hst hown
      subst hv3
      go_wp2_with fail
      go_ret
      exact ⟨by rw [← HN.out]; exact hb, _, rfl, by rw [hst'.out, ← HN.out]; exact own_weak HO.out (by omega)⟩

end Go.Proofs.YticnppnejafhdaaGreatDoor
/- Explanations, and what the layer computes with them: plain. -/
namespace Go.Proofs.YticnppnejafhdaaGreatDoor
open Go.RowKit
open Nd Rc Mo
open Av
structure Br where
  fl : Int
  fr : Int
  fm : Int
  tt : Int
  sl : List Int
deriving DecidableEq
def Br.pv (b : Br) : List PV := [ip b.fl, ip b.fr, ip b.fm, ip b.tt, .sl 1 (b.sl.map fun x => [ip x])]
structure Ex where
  lt : Lt
  ca : List Br
deriving DecidableEq
def Ex.pv (x : Ex) : List PV := [ip x.lt.fl, ip x.lt.fr, ip x.lt.sl, .sl 5 (x.ca.map Br.pv)]
def lt0 : Lt := ⟨0, 0, 0⟩
def ex0 : Ex := ⟨lt0, []⟩

/-- The fault of a flow among some nodes. -/
def faultN (nodes : Int) (f : Fl) : Int :=
  if f.id < 0 ∨ 255 < f.id ∨ f.fr < 0 ∨ nodes ≤ f.fr ∨ f.tn < 0 ∨ nodes ≤ f.tn ∨ f.pe < 1 ∨ 512 < f.pe ∨ f.ph < 0 ∨ f.pe ≤ f.ph ∨ f.dl < 1 ∨ f.pe < f.dl then 2 else if f.fr = f.tn then 1 else 0
def chkF1 (nodes : Int) (f : Fl) : Int × Int := if nodes < 2 ∨ 32 < nodes then (-1, 2) else if faultN nodes f = 0 then (-1, 0) else (0, faultN nodes f)
theorem fault_of_N {nodes : Int} {f : Fl} (hn : nodes ≤ 32) (h : faultN nodes f = 0) : fault f = 0 ∧ 0 ≤ f.fr ∧ f.fr < nodes ∧ 0 ≤ f.tn ∧ f.tn < nodes ∧ f.fr ≠ f.tn := by
  unfold faultN at h
  split at h
  · cases h
  · rename_i hb
    split at h
    · cases h
    · rename_i hne
      refine ⟨?_, by omega, by omega, by omega, by omega, hne⟩
      unfold fault
      rw [if_pos, if_neg hne]
      simp only [boundsB, Nd.inB, Bool.and_eq_true, decide_eq_true_eq]
      omega
def basicB (n : Net) (f : Fl) (r : Rec) : Bool := decide (chkN n = 0) && good r && decide ((chkF1 n.nodes f).2 = 0)
theorem basicB_inv {n : Net} {f : Fl} {r : Rec} (h : basicB n f r = true) : chkN n = 0 ∧ good r = true ∧ (2 ≤ n.nodes ∧ n.nodes ≤ 32) ∧ faultN n.nodes f = 0 ∧ fault f = 0 := by
  unfold basicB at h
  rw [Bool.and_eq_true, Bool.and_eq_true, decide_eq_true_eq, decide_eq_true_eq] at h
  obtain ⟨⟨h1, h2⟩, h3⟩ := h
  have hn : 2 ≤ n.nodes ∧ n.nodes ≤ 32 := by
    unfold chkN at h1
    split at h1
    · cases h1
    · omega
  unfold chkF1 at h3
  split at h3
  · cases h3
  · split at h3
    · rename_i h4
      exact ⟨h1, h2, hn, h4, (fault_of_N hn.2 h4).1⟩
    · rename_i h4
      exact absurd h3 h4

def lkP (a b : Int) (l : Lk) : Bool := l.fr == a && l.tt == b
/-- The place of a link, or -1. -/
def idxL (n : Net) (a b : Int) : Int := idxP (lkP a b) n.lk 0
def heardB (n : Net) (s : Int) : Bool := decide (n.thr * (n.noise + 0) ≤ s * 1000)
/-- Is there a usable link? -/
def goodL (n : Net) (a b : Int) : Bool := decide (0 ≤ idxL n a b) && (decide (0 ≤ idxL n b a) && (heardB n (n.mg.getD (idxL n a b).toNat 0) && heardB n (n.mg.getD (idxL n b a).toNat 0)))
def outN (n : Net) (x : Int) : Bool := decide (x < 0) || decide (n.nodes ≤ x)
def dupAt (p : List Int) (i : Nat) : Bool := (p.take i).any fun y => p.getD i 0 == y
def dupB (p : List Int) : Bool := (List.range p.length).any (dupAt p)
def gapAt (n : Net) (p : List Int) (i : Nat) : Bool := !goodL n (p.getD i 0) (p.getD (i + 1) 0)
def gapB (n : Net) (p : List Int) : Bool := (List.range (p.length - 1)).any (gapAt n p)
/-- The fault of a route. -/
def routeE (n : Net) (a b : Int) (p : List Int) : Int :=
  if p.length < 2 then 9 else if 9 < p.length then 8 else if p.any (outN n) = true then 2 else if p.getD 0 0 ≠ a ∨ p.getD (p.length - 1) 0 ≠ b then 11
  else if dupB p = true then 6 else if gapB n p = true then 17 else 0

/-- The attempts of a frame on a link. -/
def onLk (al : List Att) (fl fr a b : Int) : List Att := (ofFrame al fl fr).filter fun x => x.cf == a && x.ct == b
def failB (lo hi : Int) (a : Att) : Bool := !(a.o == 1) && (decide (lo ≤ a.s) && decide (a.s ≤ hi))
/-- The causes that begin at the first k attempts. -/
def causeAt (f : Fl) (fr a b lo hi : Int) (need : Nat) (l : List Att) (i : Nat) : List Br := if ((l.drop i).take need).all (failB lo hi) = true then [⟨f.id, fr, a, b, ((l.drop i).take need).map Att.s⟩] else []
def causesK (f : Fl) (fr a b lo hi : Int) (need : Nat) (l : List Att) (k : Nat) : List Br := (List.range k).flatMap (causeAt f fr a b lo hi need l)
def lossL (n : Net) (a b : Int) : Int := (n.lk.getD (idxL n a b).toNat ⟨0, 0, 0⟩).ls
def causesX (n : Net) (f : Fl) (r : Rec) (fr a b : Int) : List Br :=
  causesK f fr a b (rel f fr) (rel f fr + f.dl - 1) ((lossL n a b).toNat + 1) (onLk r.al f.id fr a b) ((onLk r.al f.id fr a b).length - (lossL n a b).toNat)
theorem causesK_succ (f : Fl) (fr a b lo hi : Int) (need : Nat) (l : List Att) (k : Nat) : causesK f fr a b lo hi need l (k + 1) = causesK f fr a b lo hi need l k ++ causeAt f fr a b lo hi need l k := by
  unfold causesK
  rw [List.range_succ, List.flatMap_append]
  simp
theorem causesK_len (f : Fl) (fr a b lo hi : Int) (need : Nat) (l : List Att) (k : Nat) : (causesK f fr a b lo hi need l k).length ≤ k := by
  induction k with
  | zero => exact Nat.le_refl _
  | succ k ih =>
    rw [causesK_succ, List.length_append]
    have : (causeAt f fr a b lo hi need l k).length ≤ 1 := by unfold causeAt; split <;> simp
    omega
def causesR (n : Net) (f : Fl) (r : Rec) (fr a b : Int) : List Br × Int :=
  if basicB n f r = false then ([], 1) else if fr < 0 ∨ 1048576 ≤ fr then ([], 2) else if idxL n a b < 0 then ([], 7) else (causesX n f r fr a b, 0)

/-- The late frame of a case. -/
def lateX (n : Net) (f : Fl) (ps : List (List Int)) (r : Rec) (fr : Int) : Lt × Int :=
  if basicB n f r = false ∨ ps.length < 1 ∨ 2 < ps.length then (lt0, 1) else if ps.any (fun p => !(routeE n f.fr f.tn p == 0)) = true then (lt0, 1)
  else match (late [f] r).1.find? (fun x => x.fr == fr) with
    | none => (lt0, 12)
    | some x => (x, 0)
/-- The first cause on a route, from its k-th link on. -/
def firstC (n : Net) (f : Fl) (r : Rec) (fr : Int) : List Int → Option Br
  | a :: b :: p => match (causesX n f r fr a b).head? with
    | some c => some c
    | none => firstC n f r fr (b :: p)
  | _ => none
def findX (n : Net) (f : Fl) (ps : List (List Int)) (r : Rec) (fr : Int) : Ex × Int :=
  if (lateX n f ps r fr).2 ≠ 0 then (ex0, (lateX n f ps r fr).2) else if ps.any (fun p => (firstC n f r fr p).isNone) = true then (ex0, 7) else (⟨(lateX n f ps r fr).1, ps.filterMap (firstC n f r fr)⟩, 0)
def onB : List Int → Int → Int → Bool
  | a :: b :: p, x, y => (a == x && b == y) || onB (b :: p) x y
  | _, _, _ => false
def okC (n : Net) (f : Fl) (r : Rec) (fr : Int) (p : List Int) (c : Br) : Bool := onB p c.fm c.tt && (causesX n f r fr c.fm c.tt).contains c
def checkX (n : Net) (f : Fl) (ps : List (List Int)) (r : Rec) (x : Ex) : Int :=
  if (lateX n f ps r x.lt.fr).2 ≠ 0 then (lateX n f ps r x.lt.fr).2 else if (lateX n f ps r x.lt.fr).1 ≠ x.lt ∨ x.ca.length ≠ ps.length then 20
  else if (List.zip ps x.ca).all (fun q => okC n f r x.lt.fr q.1 q.2) = true then 0 else 20
end Go.Proofs.YticnppnejafhdaaGreatDoor
/- Plain facts about late frames and routes. -/
namespace Go.Proofs.YticnppnejafhdaaGreatDoor
open Go.RowKit
open Nd Rc Mo
open Av
theorem find_idx {α : Type} (p : α → Bool) : ∀ (l : List α) (k : Int), (l.find? p = none ∧ idxP p l k = -1) ∨ ∃ (i : Nat) (x : α), l[i]? = some x ∧ l.find? p = some x ∧ idxP p l k = k + (i : Int) ∧ p x = true
  | [], _ => .inl ⟨rfl, rfl⟩
  | a :: l, k => by
    by_cases h : p a = true
    · exact .inr ⟨0, a, rfl, by rw [List.find?_cons_of_pos h], by rw [idxP, if_pos h]; simp, h⟩
    · rcases find_idx p l (k + 1) with ⟨h1, h2⟩ | ⟨i, x, h1, h2, h3, h4⟩
      · exact .inl ⟨by rw [List.find?_cons_of_neg (by simpa using h), h1], by rw [idxP, if_neg h, h2]⟩
      · exact .inr ⟨i + 1, x, by simpa using h1, by rw [List.find?_cons_of_neg (by simpa using h), h2], by rw [idxP, if_neg h, h3]; push_cast; omega, h4⟩
theorem right_invX {fs : List Fl} {r : Rec} (h : right fs r = true) : (∀ f ∈ fs, fault f = 0) ∧ fs.length ≤ 1000000 ∧ good r = true ∧ r.slots ≤ 4096 := by
  simp only [right, Bool.and_eq_true, decide_eq_true_eq] at h
  obtain ⟨h1, _, h3⟩ := chkF_ok h.1
  have h4 : r.slots ≤ 4096 := by
    have := h.2
    simp only [good, Bool.and_eq_true, decide_eq_true_eq] at this
    omega
  exact ⟨h1, by omega, h.2, h4⟩
theorem late_boundX (fs : List Fl) (r : Rec) : (late fs r).1.length ≤ 1000000 := by
  unfold late
  split
  · rename_i h
    simp only [right, Bool.and_eq_true, decide_eq_true_eq] at h
    obtain ⟨h1, _, h3⟩ := chkF_ok h.1
    have h4 : r.slots ≤ 4096 := by
      have := h.2
      simp only [good, Bool.and_eq_true, decide_eq_true_eq] at this
      omega
    have := late_len h4 fs h1
    dsimp only
    omega
  · exact Nat.zero_le _
theorem late_memX {f : Fl} {r : Rec} {x : Lt} (hx : x ∈ (late [f] r).1) : x.fl = f.id ∧ 0 ≤ x.fr ∧ x.fr < 1048576 := by
  unfold late at hx
  split at hx
  · rename_i h
    obtain ⟨h1, _, _, h4⟩ := right_invX h
    obtain ⟨g, hg, hx1⟩ := List.mem_flatMap.1 hx
    obtain rfl : g = f := by simpa using hg
    obtain ⟨n, hn, hx2⟩ := List.mem_flatMap.1 hx1
    clear hx
    have hx := hx2
    have hc := complete_bounds (h1 _ hg) h4
    have hn' := List.mem_range.1 hn
    unfold lateN at hx
    split at hx
    · cases hx
    · obtain rfl := List.mem_singleton.1 hx
      refine ⟨rfl, ?_, ?_⟩
      · show (0 : Int) ≤ (n : Int); omega
      · show (n : Int) < 1048576; omega
  · cases hx
structure LateOK (n : Net) (f : Fl) (ps : List (List Int)) (r : Rec) (fr : Int) : Prop where
  base : basicB n f r = true
  l1 : 1 ≤ ps.length
  l2 : ps.length ≤ 2
  rt : ∀ p ∈ ps, routeE n f.fr f.tn p = 0
  fr0 : 0 ≤ fr
  fr1 : fr < 1048576
  mem : (lateX n f ps r fr).1 ∈ (late [f] r).1
  id : (lateX n f ps r fr).1.fl = f.id
  num : (lateX n f ps r fr).1.fr = fr
theorem lateX_ok {n : Net} {f : Fl} {ps : List (List Int)} {r : Rec} {fr : Int} (h : (lateX n f ps r fr).2 = 0) : LateOK n f ps r fr := by
  have key : ∀ x : Lt × Int, x = lateX n f ps r fr → x.2 = 0 → LateOK n f ps r fr := by
    intro x hx h0
    unfold lateX at hx
    split at hx
    · subst hx; cases h0
    rename_i h1
    split at hx
    · subst hx; cases h0
    rename_i h2
    split at hx
    · subst hx; cases h0
    rename_i y hy
    have hL : lateX n f ps r fr = (y, 0) := by unfold lateX; rw [if_neg h1, if_neg h2, hy]
    have hmem := List.mem_of_find?_eq_some hy
    have hfr : y.fr = fr := by have := List.find?_some hy; simpa using this
    have hq := late_memX hmem
    have hps : ¬ (ps.length < 1) ∧ ¬ (2 < ps.length) := ⟨fun h => h1 (.inr (.inl h)), fun h => h1 (.inr (.inr h))⟩
    refine ⟨?_, by omega, by omega, fun p hp => ?_, by omega, by omega, by rw [hL]; exact hmem, by rw [hL]; exact hq.1, by rw [hL]; exact hfr⟩
    · cases hb : basicB n f r with
      | true => rfl
      | false => exact absurd (.inl hb) h1
    · refine Classical.byContradiction fun hne => h2 (List.any_eq_true.2 ⟨p, hp, ?_⟩)
      simpa using hne
  exact key _ rfl h
theorem route_inv {n : Net} {a b : Int} {p : List Int} (h : routeE n a b p = 0) : 2 ≤ p.length ∧ p.length ≤ 9 ∧ ∀ (i : Nat) (x y : Int), p[i]? = some x → p[i + 1]? = some y → 0 ≤ idxL n x y := by
  unfold routeE at h
  split at h
  · cases h
  rename_i h1
  split at h
  · cases h
  rename_i h2
  split at h
  · cases h
  split at h
  · cases h
  split at h
  · cases h
  split at h
  · cases h
  rename_i h6
  refine ⟨by omega, by omega, fun i x y hx hy => ?_⟩
  have hi := (List.getElem?_eq_some_iff.1 hy).1
  have hg : gapAt n p i = false := by
    cases hq : gapAt n p i with
    | false => rfl
    | true => exact absurd (List.any_eq_true.2 ⟨i, List.mem_range.2 (by omega), hq⟩) h6
  unfold gapAt goodL at hg
  rw [List.getD_eq_getElem?_getD, List.getD_eq_getElem?_getD, hx, hy] at hg
  simp only [Option.getD_some, Bool.not_eq_false', Bool.and_eq_true, decide_eq_true_eq] at hg
  exact hg.1
end Go.Proofs.YticnppnejafhdaaGreatDoor
/- What stands for a list may be nil where the list is empty. -/
namespace Go.Proofs.YticnppnejafhdaaGreatDoor
open Go.RowKit
open Nd Rc Mo
open Av
set_option maxRecDepth 100000
set_option linter.unusedSimpArgs false
namespace Av

/-- What stands for a list may be nil where the list is empty. -/
inductive PVLe : PV → PV → Prop
  | refl (p : PV) : PVLe p p
  | nil (sz : Nat) : PVLe (.v (.slice none 0 0)) (.sl sz [])
inductive PVsLe : List PV → List PV → Prop
  | nil : PVsLe [] []
  | cons {x y : PV} {xs ys : List PV} (h : PVLe x y) (t : PVsLe xs ys) : PVsLe (x :: xs) (y :: ys)
inductive AVLe : AV → AV → Prop
  | refl (x : AV) : AVLe x x
  | nil (sz : Nat) : AVLe (.v (.slice none 0 0)) (.sl sz [])
  | agg {xs ys : List PV} (h : PVsLe xs ys) : AVLe (.agg xs) (.agg ys)
inductive AVsLe : List AV → List AV → Prop
  | nil : AVsLe [] []
  | cons {x y : AV} {xs ys : List AV} (h : AVLe x y) (t : AVsLe xs ys) : AVsLe (x :: xs) (y :: ys)
theorem rep_nilS {R : Reader} {sz : Nat} : RepP R (.sl sz []) (.slice none 0 0) := .sl sz [] none 0 (fun _ _ => undef) (fun k row hk => by cases hk) (.inl rfl) (fun k row j p hk => by cases hk) (Nat.le_refl _)
theorem PVLe.rep {R : Reader} {x y : PV} {u : Value} (h : PVLe x y) (hr : RepP R x u) : RepP R y u := by
  cases h with
  | refl => exact hr
  | nil sz => cases hr; exact rep_nilS
theorem PVsLe.rep {R : Reader} {xs ys : List PV} (h : PVsLe xs ys) : ∀ {us : List Value}, RepL R xs us → RepL R ys us := by
  induction h with
  | nil => exact fun h => h
  | cons h t ih =>
    intro us hr
    cases hr with | cons g0 g1 => exact .cons (h.rep g0) (ih g1)
theorem AVLe.rep {R : Reader} {bx : Nat → Nat} {x y : AV} {u : Value} (h : AVLe x y) (hr : RepA R bx x u) : RepA R bx y u := by
  cases h with
  | refl => exact hr
  | nil sz => cases hr; exact rep_nilS
  | agg h =>
    obtain ⟨vs, e, hv⟩ := hr
    exact ⟨vs, e, h.rep hv⟩
theorem AVLe.refs {x y : AV} (h : AVLe x y) (hr : x.refs = []) : y.refs = [] := by
  cases h with
  | refl => exact hr
  | nil sz => rfl
  | agg h => rfl
theorem fnOK_le {P : Program} {f : FuncId} {args args' : List AV} {res : FRes} (h : FnOK P f args' res) (hl : AVsLe args args') : FnOK P f args res :=
  ⟨h.1, fun w R hR us hus => h.2 w R hR us (by
    clear h hR
    induction hl generalizing us with
    | nil => exact hus
    | cons h t ih =>
      cases hus with
      | cons g0 g1 g2 => exact .cons (h.rep g0) (h.refs g1) (ih _ g2))⟩
end Av
end Go.Proofs.YticnppnejafhdaaGreatDoor
/- Abstract states: regions that draw their order and store one result late. Generic. -/
namespace Go.Proofs.YticnppnejafhdaaGreatDoor
open Go.RowKit
namespace Av
section
variable {P : Program} {ops : Array Oper} {Q : Exit → Act → World → Prop}
end
section
variable {P : Program} {F : Fr}
def stored (σ : St) (k : Nat) (cs xs : List PV) : St := { slot := σ.slot, box := (k, setAt cs 0 xs) :: σ.box, own := keepL σ.own k 0 xs.length, ext := σ.ext }
end
end Av
end Go.Proofs.YticnppnejafhdaaGreatDoor
/- Walks: DeleteFunc of package slices at attempts, with whatever closure: what is deleted is deleted in place. -/
namespace Go.Proofs.YticnppnejafhdaaGreatDoor
open Go.RowKit
open Nd Rc Mo

/-- clear(s[k:]) of a row of one's own: what lies ahead of k stays. -/
theorem run_clear_ownD {P : Program} (w : World) (t ty e : TypeId) (i : TypeInfo) (z : Value) (size : Nat) (ht : P.underlying t = some (.slice e)) (hi : P.info? e = some i) (hz : i.zero = some z) (hzs : z.cells.size = size) (hsz : 0 < size) (h1 : ∀ u ∈ z.cells.toList, u.oneCell' = true)
    (base g n cap k c : Nat) (xs : List Value) (hown : w.ownsRow base e size (.slice (some ⟨g, 0, none⟩) n cap) n xs) (hk : k < n) :
    ∃ w', (Builtin.clear_ #[t] ty #[.slice (some ⟨g, k * size, none⟩) (n - k) c]).run P w = .ok (.tuple #[]) w' ∧ w'.ownsRow base e size (.slice (some ⟨g, 0, none⟩) k cap) k (xs.take (k * size)) ∧ w.grownBy w' (some g) := by
  rcases hown.2 with ⟨h', _⟩ | ⟨g', cap', cur, h', hb, hg, hnc, hcm, hcs, htake⟩
  · simp at h'
  · simp only [Value.slice.injEq, Option.some.injEq, Addr.mk.injEq, and_true, true_and] at h'
    obtain ⟨rfl, rfl⟩ := h'
    have hzl : (Builtin.zeroCells z.cells (n - k)).toList.length = (n - k) * size := by
      rw [Array.length_toList, size_zeroCells, hzs]
    have hfit : k * size + (n - k) * size ≤ cur.size := by
      rw [hcs, ← Nat.add_mul, show k + (n - k) = n by omega]
      exact Nat.mul_le_mul_right _ hnc
    have hst := run_storeCells_at (P := P) g (k * size) e (Builtin.zeroCells z.cells (n - k)).toList 0 cur w hg (by rw [hzl]; simpa using hfit) (by
      intro v hv
      simp only [Builtin.zeroCells] at hv
      obtain ⟨j, hj, rfl⟩ := List.getElem_of_mem hv
      have hzp : 0 < z.cells.size := by rw [hzs]; exact hsz
      have hlt : j % z.cells.size < z.cells.size := Nat.mod_lt _ hzp
      simp only [Array.getElem_toList, Array.getElem_map, Array.getElem_range] at hv ⊢
      refine h1 _ ?_
      rw [getElem!_pos z.cells _ hlt]
      simp)
    simp only [Nat.add_zero] at hst
    obtain ⟨zc, hzc⟩ : ∃ zc, zc = (Builtin.zeroCells z.cells (n - k)).toList := ⟨_, rfl⟩
    rw [← hzc] at hst hzl
    obtain ⟨row, hrow⟩ : ∃ row, row = (cur.toList.take (k * size) ++ zc ++ cur.toList.drop (k * size + zc.length)).toArray := ⟨_, rfl⟩
    rw [← hrow] at hst
    refine ⟨w.setRow g row, ?_, ⟨?_, .inr ⟨g, cap, row, rfl, hb, setRow_heap w g cur row e _ hg, by omega, hcm, ?_, ?_⟩⟩, ⟨rfl, rfl, rfl, by simp [World.setRow], fun x _ hx => setRow_other w g x row (fun e => hx (by rw [e]))⟩⟩
    · obtain ⟨m, hm⟩ : ∃ m, n - k = m + 1 := ⟨n - k - 1, by omega⟩
      rw [hm] at hzc ⊢
      simp [Builtin.clear_, run_underlying ht, zeroValue, typeInfo, hi, hz, ← hzc, hst]
    · rw [List.length_take, hown.1, Nat.min_eq_left (Nat.mul_le_mul_right _ (by omega))]
    · rw [hrow]
      simp only [List.size_toArray, List.length_append, List.length_take, List.length_drop, Array.length_toList, hzl]
      rw [hcs] at hfit ⊢
      omega
    · rw [hrow, ← htake, List.take_take, Nat.min_eq_left (Nat.mul_le_mul_right _ (by omega))]
      simp only [List.append_assoc]
      rw [List.take_append_of_le_length (by rw [List.length_take, Array.length_toList]; omega), List.take_take, Nat.min_self]

theorem take_snoc_ {α : Type} {l : List α} {k : Nat} {a : α} (h : l[k]? = some a) : l.take (k + 1) = l.take k ++ [a] := by rw [List.take_add_one, h]; rfl
theorem only_of_below {a w : World} (h : Below a.heap.size a w) (row : Option Nat) : a.grownBy w row := ⟨h.os, h.tape, h.output, h.size, fun i hi _ => h.block i hi⟩

def keepP (p : Att → Bool) (l : List Att) : List Att := l.filter fun a => !p a
theorem keepP_snoc (p : Att → Bool) (l : List Att) (a : Att) : keepP p (l ++ [a]) = if p a = true then keepP p l else keepP p l ++ [a] := by
  unfold keepP
  rw [List.filter_append]
  by_cases h : p a = true <;> simp [h]
theorem idxK_spec (p : Att → Bool) : ∀ (l : List Att) (k : Int), (idxP p l k = -1 ∧ keepP p l = l) ∨ ∃ i : Nat, i < l.length ∧ idxP p l k = k + (i : Int) ∧ keepP p (l.take (i + 1)) = l.take i
  | [], k => .inl ⟨rfl, rfl⟩
  | a :: l, k => by
    simp only [idxP]
    by_cases h : p a = true
    · rw [if_pos h]
      exact .inr ⟨0, by simp, by simp, by simp [keepP, h]⟩
    · rw [if_neg h]
      rcases idxK_spec p l (k + 1) with ⟨h1, h2⟩ | ⟨i, h1, h2, h3⟩
      · refine .inl ⟨h1, ?_⟩
        unfold keepP at h2 ⊢
        rw [List.filter_cons, h2]
        simp [h]
      · refine .inr ⟨i + 1, by simp; omega, by rw [h2]; simp; omega, ?_⟩
        unfold keepP at h3 ⊢
        rw [List.take_succ_cons, List.filter_cons, h3]
        simp [h]

set_option maxRecDepth 100000 in
set_option maxHeartbeats 2000000 in
theorem indexHA_any (p : Att → Bool) (g0 : FuncId) (cb : Array Value) (l : List Att) (A : Option Addr) (c : Nat) (w : World) (eg : ∀ args w, (callFunc g0 args).run Tryz.prog w = .ok (.enter g0 args) w) (hA : LiesA w w.heap.size A l) (hl : l.length ≤ 1000000)
    (hp : ∀ W, Below w.heap.size w W → ∀ a : Att, Calls Tryz.prog g0 (#[.agg #[.int .i64 a.s, .int .i64 a.f, .int .i64 a.cs, .int .i64 a.co, .int .i64 a.cf, .int .i64 a.ct, .int .i64 a.cl, .int .i64 a.o]] ++ cb) W fun e w' => e = .returned (.bool (p a)) ∧ Below W.heap.size W w') :
    Calls Tryz.prog 51 #[.slice A l.length c, .func (.func g0) #[] cb] w fun e w' => e = .returned (.int .i64 (idxP p l 0)) ∧ Below w.heap.size w w' := by
  obtain ⟨n, hn⟩ : ∃ n, n = l.length := ⟨_, rfl⟩
  rw [← hn] at hl ⊢
  have HN := Lib.hid hn
  obtain ⟨T, hT⟩ : ∃ T, T = idxP p l 0 := ⟨_, rfl⟩
  rw [← hT]
  have HT := Lib.hid hT
  have HP := Lib.hid hp
  clear hn hT hp
  go_enter Tryz.func51, Tryz.ntmps51
  go_wp2_with fail
  go_loopw [8] (fun i wr => ∃ (k : Nat), k ≤ n ∧ i = .int .i64 k ∧ Below w.heap.size w wr ∧ Hid (T = idxP p (l.drop k) k)) (fun i _ => n - (intOf i).toNat)
  case atStart => exact ⟨0, Nat.zero_le _, rfl, Below.refl _ _, Lib.hid (by rw [HT.out]; rfl)⟩
  case round =>
    obtain ⟨k, hk, rfl, hb, hst⟩ := hrel
    by_cases hlt : k < n
    · obtain ⟨a, ha⟩ := get_of_lt (l := l) (k := k) (by rw [← HN.out]; exact hlt)
      obtain ⟨b, off, rfl, hbB, hcs⟩ := (hA.below hb).at_ ha
      obtain ⟨c0, c1, c2, c3, c4, c5, c6, c7⟩ := hcs k a ha
      have hst' : Hid (T = if p a = true then (k : Int) else idxP p (l.drop (k + 1)) ((k : Int) + 1)) := Lib.hid (by rw [hst.out, drop_of_get ha]; rfl)
      have hcall := HP.out wr hb a
      clear hcs ha hst
      cases hq : p a with
      | true =>
        rw [hq] at hcall
        have hf := Lib.hid (show T = (k : Int) by rw [hst'.out, if_pos hq])
        clear hst' hq
        go_wp2_with (go_at_fn g0; refine hcall.mono ?_; rintro e w2 ⟨rfl, hb2⟩)
        go_ret
        exact ⟨ret_int (by rw [hf.out]), hb.trans (hb2.mono hb.size)⟩
      | false =>
        rw [hq] at hcall
        have hf := Lib.hid (show T = idxP p (l.drop (k + 1)) ((k + 1 : Nat) : Int) by rw [hst'.out, if_neg (by rw [hq]; decide)]; rfl)
        clear hst' hq
        go_wp2_with (go_at_fn g0; refine hcall.mono ?_; rintro e w2 ⟨rfl, hb2⟩)
        go_roundw
        case rel => exact ⟨k + 1, by omega, by go_num, hb.trans (hb2.mono hb.size), hf⟩
        case measure => simp [intOf]; omega
    · have hf : Hid (T = -1) := Lib.hid (by rw [hst.out, List.drop_of_length_le (by rw [← HN.out]; omega)]; rfl)
      go_wp2_with fail
      go_ret
      exact ⟨ret_int (by rw [hf.out]), hb⟩

theorem flatA_set : ∀ (X : List Att) (i : Nat) (a : Att), i < X.length → (((((((((flatA X).set (i * 8) (.int .i64 a.s)).set (i * 8 + 1) (.int .i64 a.f)).set (i * 8 + 2) (.int .i64 a.cs)).set (i * 8 + 3) (.int .i64 a.co)).set (i * 8 + 4) (.int .i64 a.cf)).set (i * 8 + 5) (.int .i64 a.ct)).set (i * 8 + 6) (.int .i64 a.cl)).set (i * 8 + 7) (.int .i64 a.o)) = flatA (X.set i a)
  | [], i, a, h => by simp at h
  | x :: X, 0, a, _ => by simp [flatA, Att.row]
  | x :: X, i + 1, a, h => by
    have ih := flatA_set X i a (by simpa using h)
    have e : flatA (x :: X) = x.row ++ flatA X := by simp [flatA]
    have e2 : flatA ((x :: X).set (i + 1) a) = x.row ++ flatA (X.set i a) := by simp [flatA]
    rw [e, e2, ← ih]
    have hl : x.row.length = 8 := rfl
    have hs : ∀ (l : List Value) (j : Nat) (u : Value), (x.row ++ l).set ((i + 1) * 8 + j) u = x.row ++ l.set (i * 8 + j) u := fun l j u => by
      rw [List.set_append_right _ _ (by rw [hl]; omega), hl]
      congr 2
      omega
    have hs0 : ∀ (l : List Value) (u : Value), (x.row ++ l).set ((i + 1) * 8) u = x.row ++ l.set (i * 8) u := fun l u => by simpa using hs l 0 u
    simp only [hs0, hs]

set_option maxRecDepth 100000 in
set_option maxHeartbeats 8000000 in
theorem deleteA_any (p : Att → Bool) (g0 : FuncId) (cb : Array Value) (l : List Att) (A : Option Addr) (c base : Nat) (w : World) (eg : ∀ args w, (callFunc g0 args).run Tryz.prog w = .ok (.enter g0 args) w) (hown : w.ownsRow base 66 8 (.slice A l.length c) l.length (flatA l)) (hl : l.length ≤ 1000000) (hp : ∀ W, w.grownBy W (Value.slice A l.length c).ownBlock → ∀ a : Att, Calls Tryz.prog g0 (#[.agg #[.int .i64 a.s, .int .i64 a.f, .int .i64 a.cs, .int .i64 a.co, .int .i64 a.cf, .int .i64 a.ct, .int .i64 a.cl, .int .i64 a.o]] ++ cb) W fun e w' => e = .returned (.bool (p a)) ∧ Below W.heap.size W w') :
    Calls Tryz.prog 72 #[.slice A l.length c, .func (.func g0) #[] cb] w fun e w' => w.grownBy w' (Value.slice A l.length c).ownBlock ∧ ∃ A' c', A' = A ∧ e = .returned (.slice A' (keepP p l).length c') ∧ w'.ownsRow base 66 8 (.slice A' (keepP p l).length c') (keepP p l).length (flatA (keepP p l)) := by
  have hidx := indexHA_any p g0 cb l A c w eg (own_A hown) hl (fun W hW a => hp W (only_of_below hW _) a)
  have HX := Lib.hid hidx
  have HSP := Lib.hid (idxK_spec p l 0)
  obtain ⟨KP, hKP⟩ : ∃ KP, KP = keepP p l := ⟨_, rfl⟩
  rw [← hKP]
  obtain ⟨n, hn⟩ : ∃ n, n = l.length := ⟨_, rfl⟩
  obtain ⟨I, hI⟩ : ∃ I, I = idxP p l 0 := ⟨_, rfl⟩
  rw [← hn] at HX hown hl hp ⊢
  have HP := Lib.hid hp
  rw [← hI] at HX HSP
  have HN := Lib.hid hn
  have HKP := Lib.hid hKP
  clear hidx hn hKP hI hp
  go_enter Tryz.func72, Tryz.ntmps72
  go_wp2_with fail
  refine HX.out.mono ?_
  rintro e w1 ⟨rfl, hb1⟩
  have hown1 := own_kept (w' := w1) hown fun g cs hg h => h.below hb1 h.lt
  have hg1 := only_of_below hb1 (Value.slice A n c).ownBlock
  rcases HSP.out with ⟨e1, e2⟩ | ⟨i0, e1, e2, e3⟩
  · subst e1
    have HK2 : Hid (KP = l) := Lib.hid (by rw [HKP.out, e2])
    have HO := Lib.hid hown1
    clear e2 hown1
    go_wp2_with fail
    go_ret
    rw [HK2.out]
    have hln : l.length = n := HN.out.symm
    rw [hln]
    exact ⟨hg1, A, c, rfl, rfl, HO.out⟩
  · rw [← HN.out] at e1
    have e2' : I = (i0 : Int) := by rw [e2]; omega
    subst e2'
    have HE3 := Lib.hid e3
    clear e2 e3
    obtain ⟨g, hAg⟩ : ∃ g, A = some ⟨g, 0, none⟩ := by
      rcases hown1.2 with ⟨_, h0⟩ | ⟨g, cap, cur, hv, _⟩
      · omega
      · injection hv with hv _ _
        exact ⟨g, hv⟩
    subst hAg
    have hcap : n ≤ c ∧ c ≤ maxLen := by
      rcases hown1.2 with ⟨h0, _⟩ | ⟨g', cap, cur, hv, _, _, h1, h2, _⟩
      · cases h0
      · injection hv with _ _ hv
        subst hv
        exact ⟨h1, h2⟩
    obtain ⟨hnc, hcm⟩ := hcap
    unfold maxLen at hcm
    have hgl : g < w1.heap.size := (hown1.lt g rfl).2
    have HP2 : Hid (∀ W, w.grownBy W (some g) → ∀ a : Att, Calls Tryz.prog g0 (#[.agg #[.int .i64 a.s, .int .i64 a.f, .int .i64 a.cs, .int .i64 a.co, .int .i64 a.cf, .int .i64 a.ct, .int .i64 a.cl, .int .i64 a.o]] ++ cb) W fun e w' => e = .returned (.bool (p a)) ∧ Below W.heap.size W w') := Lib.hid HP.out
    clear HP
    simp only [Value.ownBlock] at hg1 ⊢
    obtain ⟨z0, hi, hz0, hz1, hz2⟩ := info_parts Tryz.infoAtt
    have HI := Lib.hid (And.intro hi (And.intro hz0 (And.intro hz1 hz2)))
    clear hi hz0 hz1 hz2
    obtain ⟨Rel, hRel⟩ : ∃ Rel : Nat → Nat → World → Prop, Rel = fun i j W => ∃ X : List Att, X.length = n ∧ X.take i = keepP p (l.take j) ∧ X.drop j = l.drop j ∧ W.ownsRow base 66 8 (.slice (some ⟨g, 0, none⟩) n c) n (flatA X) ∧ w.grownBy W (some g) := ⟨_, rfl⟩
    have HRel := Lib.hid hRel
    have hst0 : Rel i0 (i0 + 1) w1 := by
      rw [hRel]
      exact ⟨l, HN.out.symm, HE3.out.symm, rfl, hown1, hg1⟩
    have HOW := Lib.hid hown1
    clear hRel hown1
    have i0m : ((i0 : Int) == -1) = false := by rw [beq_eq_false_iff_ne]; omega
    go_wp2_with fail
    go_loopw [5, 6] (fun s5 s6 wr => ∃ (i j : Nat), i < j ∧ j ≤ n ∧ s5 = .int .i64 i ∧ s6 = .int .i64 j ∧ Rel i j wr) (fun _ s6 _ => n - (intOf s6).toNat)
    case atStart => exact ⟨i0, i0 + 1, by omega, by omega, rfl, by go_num, hst0⟩
    case round =>
      clear hst0
      obtain ⟨i, j, hij, hj, rfl, rfl, hrel⟩ := hrel
      rw [HRel.out] at hrel
      obtain ⟨X, hXn, hXt, hXd, hownX, hgr⟩ := hrel
      have HXN := Lib.hid hXn
      have HXT := Lib.hid hXt
      have HXD := Lib.hid hXd
      have hgw : g < wr.heap.size := (hownX.lt g rfl).2
      clear hXn hXt hXd
      by_cases hlt : j < n
      · obtain ⟨a, ha⟩ := get_of_lt (l := l) (k := j) (by rw [← HN.out]; exact hlt)
        have hXj : X[j]? = some a := by
          have h1 : (X.drop j)[0]? = (l.drop j)[0]? := by rw [HXD.out]
          simpa [List.getElem?_drop, ha] using h1
        have hlX : LiesA wr wr.heap.size (some ⟨g, 0, none⟩) X := own_A (l := X) (base := base) (n := n) (c := c) (by rw [HXN.out]; exact hownX)
        obtain ⟨b, off, eb, _, hcs⟩ := hlX.at_ hXj
        injection eb with eb
        injection eb with eb1 eb2 _
        subst eb1 eb2
        obtain ⟨c0, c1, c2, c3, c4, c5, c6, c7⟩ := hcs j a hXj
        simp only [Nat.zero_add] at c0 c1 c2 c3 c4 c5 c6 c7
        have htk : Hid (keepP p (l.take (j + 1)) = if p a = true then keepP p (l.take j) else keepP p (l.take j) ++ [a]) := Lib.hid (by rw [take_snoc_ ha]; exact keepP_snoc p _ a)
        have hdr : Hid (X.drop (j + 1) = l.drop (j + 1)) := Lib.hid (by
          have h1 := HXD.out
          rw [drop_of_get hXj, drop_of_get ha] at h1
          injection h1)
        have HOX := Lib.hid hownX
        clear hcs ha hXj hlX hownX
        go_upto_region 8 with fail
        generalize hW2 : wr.alloc _ = W2
        have ba : Blk W2 wr.heap.size 66 [.int .i64 a.s, .int .i64 a.f, .int .i64 a.cs, .int .i64 a.co, .int .i64 a.cf, .int .i64 a.ct, .int .i64 a.cl, .int .i64 a.o] := by rw [← hW2]; exact Blk.new' _ [.int .i64 a.s, .int .i64 a.f, .int .i64 a.cs, .int .i64 a.co, .int .i64 a.cf, .int .i64 a.ct, .int .i64 a.cl, .int .i64 a.o] rfl
        have hown2 : W2.ownsRow base 66 8 (.slice (some ⟨g, 0, none⟩) n c) n (flatA X) := by rw [← hW2]; exact HOX.out.alloc _
        have hw2 : Below wr.heap.size wr W2 := by rw [← hW2]; exact (Below.refl _ _).alloc (Nat.le_refl _) _
        have hcall := HP2.out W2 (hgr.trans (only_of_below hw2 (some g))) a
        have cb0 := ba.row
        unfold Row at cb0
        clear hW2 c0 c1 c2 c3 c4 c5 c6 c7 HOX
        go_wp2_with fail
        go_at_fn g0
        refine hcall.mono ?_
        rintro e w3 ⟨rfl, hb3⟩
        have hown3 := own_kept (w' := w3) hown2 fun x cs hg h => h.below hb3 h.lt
        have hgr3 : w.grownBy w3 (some g) := hgr.trans ((only_of_below hw2 (some g)).trans (only_of_below hb3 (some g)))
        have ba3 := ba.below hb3 ba.lt
        clear hown2 ba cb0 hgr
        by_cases hs : p a = true
        · rw [hs]
          have hnew : Rel i (j + 1) w3 := by
            rw [HRel.out]
            exact ⟨X, HXN.out, by rw [htk.out, if_pos hs]; exact HXT.out, hdr.out, hown3, hgr3⟩
          clear hown3 ba3 hs
          go_wp2_with fail
          go_roundw
          case rel => exact ⟨i, j + 1, by omega, by omega, rfl, by go_num, hnew⟩
          case measure => simp [intOf]; omega
        · rw [show p a = false by simpa using hs]
          have hiX : i < X.length := by rw [HXN.out]; omega
          have hst := flatA_set X i a hiX
          have o1 := hown3.stored (i * 8) (.int .i64 a.s)
          have o2 := o1.1.stored (i * 8 + 1) (.int .i64 a.f)
          have o3 := o2.1.stored (i * 8 + 2) (.int .i64 a.cs)
          have o4 := o3.1.stored (i * 8 + 3) (.int .i64 a.co)
          have o5 := o4.1.stored (i * 8 + 4) (.int .i64 a.cf)
          have o6 := o5.1.stored (i * 8 + 5) (.int .i64 a.ct)
          have o7 := o6.1.stored (i * 8 + 6) (.int .i64 a.cl)
          have o8 := o7.1.stored (i * 8 + 7) (.int .i64 a.o)
          have hnew : Rel (i + 1) (j + 1) ((((((((w3.setCell ⟨g, i * 8, none⟩ (.int .i64 a.s)).setCell ⟨g, i * 8 + 1, none⟩ (.int .i64 a.f)).setCell ⟨g, i * 8 + 2, none⟩ (.int .i64 a.cs)).setCell ⟨g, i * 8 + 3, none⟩ (.int .i64 a.co)).setCell ⟨g, i * 8 + 4, none⟩ (.int .i64 a.cf)).setCell ⟨g, i * 8 + 5, none⟩ (.int .i64 a.ct)).setCell ⟨g, i * 8 + 6, none⟩ (.int .i64 a.cl)).setCell ⟨g, i * 8 + 7, none⟩ (.int .i64 a.o)) := by
            rw [HRel.out]
            refine ⟨X.set i a, by simp [HXN.out], ?_, ?_, by rw [← hst]; exact o8.1, ((((((((hgr3.trans o1.2).trans o2.2).trans o3.2).trans o4.2).trans o5.2).trans o6.2).trans o7.2).trans o8.2)⟩
            · have hget : (X.set i a)[i]? = some a := by simp [hiX]
              rw [take_snoc_ hget, htk.out, if_neg hs, ← HXT.out, List.take_set_of_le (Nat.le_refl _)]
            · rw [List.drop_set_of_lt (by omega)]
              exact hdr.out
          have HNEW := Lib.hid hnew
          have lX3 : LiesA w3 w3.heap.size (some ⟨g, 0, none⟩) X := own_A (l := X) (base := base) (n := n) (c := c) (by rw [HXN.out]; exact hown3)
          obtain ⟨x, hx⟩ := get_of_lt hiX
          obtain ⟨b, off, eb, _, hcs⟩ := lX3.at_ hx
          injection eb with eb
          injection eb with eb1 eb2 _
          subst eb1 eb2
          obtain ⟨c0, c1, c2, c3, c4, c5, c6, c7⟩ := hcs i x hx
          simp only [Nat.zero_add] at c0 c1 c2 c3 c4 c5 c6 c7
          have fz : ∀ k, w3.frozen? ⟨g, k, none⟩ = false := by
            rcases hown3.2 with ⟨h0, _⟩ | ⟨g', cap, cur, hv, _, hh, _⟩
            · cases h0
            · injection hv with hv _ _
              injection hv with hv
              injection hv with hv _ _
              subst hv
              intro k
              simp [World.frozen?, hh]
          have cb3 := ba3.row
          unfold Row at cb3
          have hgne : ¬ wr.heap.size = g := by omega
          have hgne' : ¬ g = wr.heap.size := by omega
          have hic : i < n := by omega
          clear hst o1 o2 o3 o4 o5 o6 o7 o8 hnew hown3 ba3 hs lX3 hx hcs hgr3
          go_wp2_with fail
          go_roundw
          case rel => exact ⟨i + 1, j + 1, by omega, by omega, by go_num, by go_num, HNEW.out⟩
          case measure => simp [intOf]; omega
      · have hje : j = n := by omega
        subst hje
        obtain ⟨w4, hrun, ho4, hg4⟩ := run_clear_ownD (P := Tryz.prog) wr 30 0 66 z0 (.agg #[.int .i64 0, .int .i64 0, .int .i64 0, .int .i64 0, .int .i64 0, .int .i64 0, .int .i64 0, .int .i64 0]) 8 Tryz.underlying30 HI.out.1 HI.out.2.1 rfl (by decide) (by intro u hu; simp [Value.cells] at hu; subst hu; rfl) base g j c i (c - i) (flatA X) hownX hij
        have hci : ¬ c = i := by omega
        have hkl : Hid (KP = X.take i) := Lib.hid (by rw [HKP.out, HXT.out, List.take_of_length_le (by rw [HN.out]; exact Nat.le_refl _)])
        have hlen : Hid (KP.length = i) := Lib.hid (by rw [hkl.out, List.length_take, HXN.out]; omega)
        have hflat : Hid ((flatA X).take (i * 8) = flatA KP) := Lib.hid (by
          have h1 : flatA X = flatA (X.take i) ++ flatA (X.drop i) := by
            unfold flatA
            rw [← List.flatMap_append, List.take_append_drop]
          have h2 : (flatA (X.take i)).length = i * 8 := by
            have h := flat_len (f := Att.row) row_len_A (X.take i)
            rw [List.length_take, HXN.out, Nat.min_eq_left (by omega)] at h
            exact h
          rw [hkl.out, h1, List.take_append_of_le_length (by rw [h2]; exact Nat.le_refl _), List.take_of_length_le (by rw [h2]; exact Nat.le_refl _)])
        have HRUN := Lib.hid hrun
        have HO4 := Lib.hid ho4
        have HG4 := Lib.hid (hgr.trans hg4)
        clear hrun ho4 hg4 hownX
        go_wp2_with fail
        rename_i hK
        rw [HRUN.out]
        simp only [Result.andThen_ok, Oper.upon_value]
        refine hK _ _ ?_
        go_wp2_with fail
        go_ret
        refine ⟨HG4.out, some ⟨g, 0, none⟩, c, rfl, by rw [hlen.out]; rfl, ?_⟩
        rw [hlen.out, ← hflat.out]
        exact HO4.out

end Go.Proofs.YticnppnejafhdaaGreatDoor
/- Abstract states: a list that the frame holds alone, and what DeleteFunc makes of it in place: by hand. -/
namespace Go.Proofs.YticnppnejafhdaaGreatDoor
open Go.RowKit
open Nd Rc Mo
open Av
namespace Av
/-- A row in memory, read. -/
theorem own_repR {R : Reader} {w : World} {base : Nat} {e : TypeId} {sz : Nat} {v : Value} {xs : List (List Value)} (h : w.ownsRow base e sz v xs.length xs.flatten) (hl : ∀ row ∈ xs, row.length = sz) (h1 : ∀ row ∈ xs, ∀ x ∈ row, x.oneCell' = true)
    (hR : ∀ g, v.ownBlock = some g → ∀ (p : Addr) x, p.block = g → w.cell? p = some x → R p = some x) : RepP R (.sl sz (xs.map fun row => row.map PV.v)) v := by
  have hz : ∀ (k : Nat) (row : List PV) (j : Nat) (p : PV), (xs.map fun row => row.map PV.v)[k]? = some row → row[j]? = some p → ∃ x, xs.flatten[k * sz + j]? = some x ∧ RepP R p x := fun k row j p hk hj => by
    rw [List.getElem?_map] at hk
    cases hx : xs[k]? with
    | none => rw [hx] at hk; cases hk
    | some r =>
      rw [hx] at hk
      simp only [Option.map_some, Option.some.injEq] at hk
      subst hk
      rw [List.getElem?_map] at hj
      cases hy : r[j]? with
      | none => rw [hy] at hj; cases hj
      | some y =>
        rw [hy] at hj
        simp only [Option.map_some, Option.some.injEq] at hj
        subst hj
        exact ⟨y, flatten_get hl hx hy, .v y (h1 r (List.mem_of_getElem? hx) y (List.mem_of_getElem? hy))⟩
  have hsz : ∀ (k : Nat) (row : List PV), (xs.map fun row => row.map PV.v)[k]? = some row → row.length = sz := fun k row hk => by
    rw [List.getElem?_map] at hk
    cases hx : xs[k]? with
    | none => rw [hx] at hk; cases hk
    | some r =>
      rw [hx] at hk
      simp only [Option.map_some, Option.some.injEq] at hk
      subst hk
      rw [List.length_map]
      exact hl r (List.mem_of_getElem? hx)
  have hmk : ∀ {A : Option Addr} {cap : Nat}, (xs = [] ∨ ∃ b off, A = some ⟨b, off, none⟩ ∧ ∀ (i : Nat) (x : Value), xs.flatten[i]? = some x → i < xs.length * sz → R ⟨b, off + i, none⟩ = some x) → xs.length ≤ cap → RepP R (.sl sz (xs.map fun row => row.map PV.v)) (.slice A xs.length cap) := fun {A cap} hA hc => by
    have := rep_mk (R := R) (A := A) (cap := cap) (zs := xs.flatten) hsz hz (by
      rcases hA with h2 | ⟨b, off, h2, h3⟩
      · left; rw [h2]; rfl
      · exact .inr ⟨b, off, h2, fun i x hx hi => h3 i x hx (by simpa using hi)⟩) (by simpa using hc)
    simpa using this
  obtain ⟨_, h2⟩ := h
  rcases h2 with ⟨rfl, hn⟩ | ⟨g, cap, cur, rfl, hb, hg, hnc, hcm, hcs, htake⟩
  · have hx : xs = [] := List.eq_nil_of_length_eq_zero hn
    subst hx
    exact hmk (A := none) (cap := 0) (.inl rfl) (Nat.le_refl _)
  · refine hmk (.inr ⟨g, 0, rfl, fun i x hx hi => hR g rfl _ _ rfl ?_⟩) hnc
    rw [Nat.zero_add, cell_of_row w g i cur e (0, 0) hg]
    rw [← htake, List.getElem?_take, if_pos hi] at hx
    rw [← Array.getElem?_toList]
    exact hx
/-- A list that nothing else reads. -/
def ownE (e : TypeId) (sz : Nat) (V : Value) (n : Nat) (xs : List Value) : Ext where
  foot b := V.ownBlock = some b
  froz _ := False
  holds w := w.ownsRow 0 e sz V n xs
  stable h hw := own_kept hw fun g _ hg hb => (h g (.inl hg)).trans hb
theorem own_low {w : World} {base : Nat} {e : TypeId} {sz : Nat} {v : Value} {n : Nat} {xs : List Value} (h : w.ownsRow base e sz v n xs) : w.ownsRow 0 e sz v n xs := by
  obtain ⟨h1, h2⟩ := h
  refine ⟨h1, ?_⟩
  rcases h2 with h2 | ⟨g, cap, cur, e1, _, h2⟩
  · exact .inl h2
  · exact .inr ⟨g, cap, cur, e1, Nat.zero_le _, h2⟩
section
variable {n d : Nat} {σ : St} {o : Oper} {K : St → Prop}
/-- The attempts of a frame, as a list that nothing else reads. -/
theorem hand_attempts {x y z : Operand} {ats : Array TypeId} (r : Rec) (fl fr : Int) (hla : r.al.length ≤ 1000000) (ho : o.op = .call { callee := .value (.func 73), args := #[x, y, z], argTypes := ats }) (hd : o.dst = some d) (hdn : d < n)
    (hx : evo (look σ.slot) x = some (.agg r.pv)) (hy : evo (look σ.slot) y = some (iv fl)) (hz : evo (look σ.slot) z = some (iv fr))
    (h : ∀ V, K (({ σ with ext := σ.ext.and (ownE 66 8 V (ofFrame r.al fl fr).length (flatA (ofFrame r.al fl fr))) } : St).put d (.v V))) : Hand Tryz.prog n σ o K := by
  refine hand_call hd fun F γ a w hF hr => ?_
  obtain ⟨A, D, ca, cd, e1, hA, _⟩ := rec_rep (fun p v hp => hr.cell hp) (evo_ok hr (fun _ _ _ hy => hy) hx).1
  have e2 : a.eval y = .int .i64 fl := (evo_ok hr (fun _ _ _ hy => hy) hy).1
  have e3 : a.eval z = .int .i64 fr := (evo_ok hr (fun _ _ _ hy => hy) hz).1
  refine ⟨73, #[a.eval x, a.eval y, a.eval z], ?_, ?_⟩
  · have henter : Enters Tryz.prog 73 := ⟨Tryz.f73, _, Tryz.func73, by kernel_rfl, rfl⟩
    have hf : a.eval (.func 73) = .func (.func 73) #[] #[] := rfl
    simp [execOp, ho, resolve, hf, Deferred.ofValue, invoke, run_callFunc henter]
  rw [e1, e2, e3]
  refine (attempts2_any r A D ca cd fl fr w hA hla).mono ?_
  rintro e w1 ⟨hb, va, rfl, hown⟩
  have hlow := own_low hown
  refine ⟨va, _, γ, rfl, h va, (hr.turn (Turn.more (fun b hb => (hr.extf b hb).2.1) hr.exth (Turn.below (E := ownE 66 8 va (ofFrame r.al fl fr).length (flatA (ofFrame r.al fl fr))) hb hlow (fun b hb' => .inr ?_) (fun b (hf : False) => hf.elim)))).put (by rw [hF]; exact hdn) rfl (fun k hk => by cases hk)⟩
  rcases hown.2 with ⟨rfl, _⟩ | ⟨g, cap, cur, rfl, hg, hh, _⟩
  · cases hb'
  · simp only [ownE, Value.ownBlock, Option.some.injEq] at hb'
    subst hb'
    exact ⟨hg, (Array.getElem?_eq_some_iff.1 hh).1⟩
/-- DeleteFunc of a list that nothing else reads, with a closure of two numbers. -/
theorem hand_delete {x y : Operand} {ats : Array TypeId} {fid k1 k2 : Nat} {V : Value} {l : List Att} {m1 m2 : Int} (p : Att → Bool) (E0 : Ext) (ho : o.op = .call { callee := .value (.func 72), args := #[x, y], argTypes := ats }) (hd : o.dst = some d) (hdn : d < n)
    (hE : σ.ext = E0.and (ownE 66 8 V l.length (flatA l))) (hx : evo (look σ.slot) x = some (.v V)) (hy : evo (look σ.slot) y = some (.clo fid [(k1, 0), (k2, 0)])) (hb1 : look σ.box k1 = some [ip m1]) (hb2 : look σ.box k2 = some [ip m2]) (hl : l.length ≤ 1000000)
    (hcl : ∀ a : Att, FnOK Tryz.prog fid [.agg a.pv, .ept [ip m1], .ept [ip m2]] ⟨bv (p a), none⟩)
    (h : K (({ σ with ext := E0 } : St).put d (.sl 8 ((keepP p l).map Att.pv)))) : Hand Tryz.prog n σ o K := by
  refine hand_call hd fun F γ a w hF hr => ?_
  have e1 : a.eval x = V := (evo_ok hr (fun _ _ _ hy => hy) hx).1
  have e2 : a.eval y = .func (.func fid) #[] #[.pointer (some ⟨γ.bx k1, 0, none⟩), .pointer (some ⟨γ.bx k2, 0, none⟩)] := (evo_ok hr (fun _ _ _ hy => hy) hy).1
  refine ⟨72, #[a.eval x, a.eval y], ?_, ?_⟩
  · have henter : Enters Tryz.prog 72 := ⟨Tryz.f72, _, Tryz.func72, by kernel_rfl, rfl⟩
    have hf : a.eval (.func 72) = .func (.func 72) #[] #[] := rfl
    simp [execOp, ho, resolve, hf, Deferred.ofValue, invoke, run_callFunc henter]
  have hext := hr.exth
  rw [hE] at hext
  obtain ⟨hh0, hown, hdis⟩ := hext
  have hfoot : ∀ b, V.ownBlock = some b → F.w0.heap.size ≤ b ∧ b < w.heap.size ∧ (∀ k, (look σ.box k).isSome → γ.bx k ≠ b) ∧ (∀ L, (lookL σ.own L).isSome → γ.rw L ≠ some b) := fun b hb => hr.extf b (.inl (by rw [hE]; exact .inr hb))
  obtain ⟨A, c, hV⟩ : ∃ A c, V = .slice A l.length c := by
    rcases hown.2 with ⟨h1, h2⟩ | ⟨g, cap, cur, h1, _⟩
    · exact ⟨none, 0, by rw [h1, h2]⟩
    · exact ⟨_, _, h1⟩
  have hcell : ∀ k m, look σ.box k = some [ip m] → (look σ.box k).isSome ∧ γ.bx k < w.heap.size ∧ w.cell? ⟨γ.bx k, 0, none⟩ = some (.int .i64 m) := fun k m hk => by
    obtain ⟨us, ty, h1, _, h3⟩ := hr.boxes k _ hk
    cases h3 with | cons h3 h4 =>
    cases h4
    cases h3
    refine ⟨by rw [hk]; rfl, (Array.getElem?_eq_some_iff.1 h1).1, ?_⟩
    rw [cell_of_row w _ 0 _ ty (0, 0) h1]
    rfl
  obtain ⟨s1, l1, c1⟩ := hcell k1 m1 hb1
  obtain ⟨s2, l2, c2⟩ := hcell k2 m2 hb2
  rw [e1, e2, hV]
  rw [hV] at hown hfoot hdis
  refine (deleteA_any p fid _ l A c 0 w (fun args w => run_callFunc (hcl ⟨0, 0, 0, 0, 0, 0, 0, 0⟩).1 args w) hown hl (fun W hW x => ?_)).mono ?_
  · have hne : ∀ k, (look σ.box k).isSome → some (γ.bx k) ≠ (Value.slice A l.length c).ownBlock := fun k hk h => (hfoot _ h.symm).2.2.1 k hk rfl
    have hk1 : W.cell? ⟨γ.bx k1, 0, none⟩ = some (.int .i64 m1) := (World.cell?_of_block (hW.block _ l1 (hne k1 s1))).trans c1
    have hk2 : W.cell? ⟨γ.bx k2, 0, none⟩ = some (.int .i64 m2) := (World.cell?_of_block (hW.block _ l2 (hne k2 s2))).trans c2
    have hept : ∀ k m, W.cell? ⟨γ.bx k, 0, none⟩ = some (.int .i64 m) → RepA (fun q => W.cell? q) (fun _ => 0) (.ept [ip m]) (.pointer (some ⟨γ.bx k, 0, none⟩)) := fun k m hk => ⟨_, 0, [.int .i64 m], rfl, .cons (.v _ rfl) .nil, fun i x hx => by
      cases i with
      | zero => simp at hx; subst hx; exact hk
      | succ i => simp at hx⟩
    have := (hcl x).2 W (fun q => W.cell? q) (fun _ _ h => h) [.agg #[.int .i64 x.s, .int .i64 x.f, .int .i64 x.cs, .int .i64 x.co, .int .i64 x.cf, .int .i64 x.ct, .int .i64 x.cl, .int .i64 x.o], .pointer (some ⟨γ.bx k1, 0, none⟩), .pointer (some ⟨γ.bx k2, 0, none⟩)]
      (.cons ⟨_, rfl, rep_of_ints (xs := [.int .i64 x.s, .int .i64 x.f, .int .i64 x.cs, .int .i64 x.co, .int .i64 x.cf, .int .i64 x.ct, .int .i64 x.cl, .int .i64 x.o]) (by intro u hu; simp at hu; rcases hu with rfl | rfl | rfl | rfl | rfl | rfl | rfl | rfl <;> rfl)⟩ rfl (.cons (hept k1 m1 hk1) rfl (.cons (hept k2 m2 hk2) rfl .nil)))
    refine this.mono ?_
    rintro e w' ⟨u, rfl, hb, hres⟩
    exact ⟨by rw [show u = .bool (p x) from hres.2], hb⟩
  · rintro e w1 ⟨hg, A', c', hA', rfl, hown'⟩
    subst hA'
    have hturn : Turn σ.ext w w1 E0 := by
      refine ⟨hg.os, hg.tape, hg.output, hg.size, fun k hk hn => hg.block k hk (fun h => hn (by rw [hE, hV]; exact .inr h.symm)), E0.stable (fun b hb => ?_) hh0, fun b hb => .inl (by rw [hE]; exact .inl hb), fun b hb => .inr (.inl (by rw [hE]; exact .inl hb)), fun w0 h => by rw [hE] at h; exact h.1⟩
      have hlt := (hr.extf b (by rw [hE]; exact hb.elim (fun h => .inl (.inl h)) (fun h => .inr (.inl h)))).2.1
      exact hg.block b hlt (fun h => hdis b hb (.inl h.symm))
    refine ⟨_, _, γ, rfl, h, (hr.turn hturn).put (by rw [hF]; exact hdn) ?_ (fun k hk => by cases hk)⟩
    have hlen : (keepP p l).length = ((keepP p l).map Att.row).length := (List.length_map _).symm
    have hfl : flatA (keepP p l) = ((keepP p l).map Att.row).flatten := by unfold flatA; rw [List.flatMap_def]
    rw [hlen, hfl] at hown'
    rw [hlen, att_pv]
    refine own_repR hown' (fun row hr => by obtain ⟨x, _, rfl⟩ := List.mem_map.1 hr; rfl) (fun row hr x hx => by obtain ⟨y, _, rfl⟩ := List.mem_map.1 hr; simp only [Att.row, List.mem_cons, List.not_mem_nil, or_false] at hx; rcases hx with rfl | rfl | rfl | rfl | rfl | rfl | rfl | rfl <;> rfl) (fun g hgb q x hq hc => ?_)
    have hgb' : (Value.slice A' l.length c).ownBlock = some g := by cases A' with | none => cases hgb | some b => exact hgb
    obtain ⟨f1, f2, f3, f4⟩ := hfoot g hgb'
    unfold rdr
    rw [if_neg (by omega), if_neg]
    · exact hc
    · rintro (⟨k, cs, hk, hpk⟩ | ⟨L, e, sz, rows, q1, q2, q3, q4⟩ | hx)
      · exact f3 k (by rw [show look σ.box k = some cs from hk]; rfl) (by rw [← hpk, hq])
      · exact f4 L (by rw [show lookL σ.own L = some (e, sz) from q1]; rfl) (by rw [q3, hq])
      · exact hdis g (.inl (by rw [← hq]; exact hx)) (.inl hgb')
end
end Av
end Go.Proofs.YticnppnejafhdaaGreatDoor
/- Slots of a frame, for whatever frame can be recorded. -/
namespace Go.Proofs.YticnppnejafhdaaGreatDoor
open Go.RowKit
open Nd Rc Mo
open Av
set_option maxRecDepth 100000
set_option linter.unusedSimpArgs false

set_option maxHeartbeats 1000000 in
theorem releaseW_any (f : Fl) (n : Int) (hf : fault f = 0) (h0 : 0 ≤ n) (h1 : n ≤ 1048576) (w : World) :
    Calls Tryz.prog 106 #[.agg #[.int .i64 f.id, .int .i64 f.fr, .int .i64 f.tn, .int .i64 f.pe, .int .i64 f.ph, .int .i64 f.dl], .int .i64 n] w fun e w' => e = .returned (.tuple #[.int .i64 (rel f n), .int .i64 0]) ∧ Below w.heap.size w w' := by
  have con := fun W => alone_any f W
  rw [hf] at con
  obtain ⟨_, _, _, hp, hq, hdl, _⟩ := fault_zero hf
  have hm0 : 0 ≤ n * f.pe := Int.mul_nonneg h0 (by omega)
  have hm1 : n * f.pe ≤ 1048576 * f.pe := Int.mul_le_mul_of_nonneg_right h1 (by omega)
  unfold rel
  obtain ⟨m, hmm⟩ : ∃ m, m = n * f.pe := ⟨_, rfl⟩
  have hw1 : IntKind.i64.wrap (n * f.pe) = m := by rw [← hmm, IntKind.wrap_i64]; omega
  rw [← hmm] at hm0 hm1 ⊢
  have hw2 : IntKind.i64.wrap (f.ph + m) = f.ph + m := by rw [IntKind.wrap_i64]; omega
  have d0 : decide (n < 0) = false := decide_eq_false (by omega)
  have d1 : decide (1099511627776 < n) = false := decide_eq_false (by omega)
  have d2 : decide (1099511627776 < f.ph + m) = false := decide_eq_false (by omega)
  clear hf
  obtain ⟨id, fr, tn, pe, ph, dl⟩ := f
  dsimp only at *
  have HMM := Lib.hid hmm.symm
  have Con := Lib.hid con
  clear con hmm
  go_enter Tryz.func106, Tryz.ntmps106
  go_wp2_with (first | (go_at_call 152; (with_reducible refine (Con.out _).mono ?_); rintro e w2 ⟨rfl, hb2⟩; have r2 := (Row.new w [.int .i64 id, .int .i64 fr, .int .i64 tn, .int .i64 pe, .int .i64 ph, .int .i64 dl] 28).below hb2 (by simp); unfold Row at r2) | fail)
  go_ret2
  exact ⟨by first | rfl | (rw [HMM.out]; done) | simp [HMM.out], ((Below.refl _ _).alloc (Nat.le_refl _) _).trans (hb2.mono (by simp))⟩

set_option maxHeartbeats 1000000 in
theorem WindowW_any (f : Fl) (n : Int) (hf : fault f = 0) (h0 : 0 ≤ n) (h1 : n ≤ 1048576) (w : World) :
    Calls Tryz.prog 70 #[.agg #[.int .i64 f.id, .int .i64 f.fr, .int .i64 f.tn, .int .i64 f.pe, .int .i64 f.ph, .int .i64 f.dl], .int .i64 n] w fun e w' => e = .returned (.tuple #[.int .i64 (rel f n), .int .i64 (rel f n + f.pe - 1), .int .i64 0]) ∧ Below w.heap.size w w' := by
  have con := fun W => releaseW_any f n hf h0 h1 W
  obtain ⟨_, _, _, hp, hq, hdl, _⟩ := fault_zero hf
  have hm0 : 0 ≤ n * f.pe := Int.mul_nonneg h0 (by omega)
  have hm1 : n * f.pe ≤ 1048576 * f.pe := Int.mul_le_mul_of_nonneg_right h1 (by omega)
  unfold rel at con ⊢
  generalize hmm : n * f.pe = m at *
  clear hmm
  clear hf
  obtain ⟨id, fr, tn, pe, ph, dl⟩ := f
  dsimp only at *
  have Con := Lib.hid con
  clear con
  have hw1 : IntKind.i64.wrap (ph + m + pe - 1) = ph + m + pe - 1 := by rw [IntKind.wrap_i64]; omega
  have hw2 : IntKind.i64.wrap (ph + m + pe) = ph + m + pe := by rw [IntKind.wrap_i64]; omega
  go_enter Tryz.func70, Tryz.ntmps70
  go_wp2_with (first | (go_at_call 106; (with_reducible refine (Con.out _).mono ?_); rintro e w2 ⟨rfl, hb2⟩; have r2 := (Row.new w [.int .i64 id, .int .i64 fr, .int .i64 tn, .int .i64 pe, .int .i64 ph, .int .i64 dl] 28).below hb2 (by simp); unfold Row at r2) | fail)
  go_quiet (fail)
  go_wp2_with fail
  go_ret3
  exact ⟨rfl, below_drewN (((Below.refl _ _).alloc (Nat.le_refl _) _).trans (hb2.mono (by simp))) _⟩

set_option maxHeartbeats 1000000 in
theorem DueW_any (f : Fl) (n : Int) (hf : fault f = 0) (h0 : 0 ≤ n) (h1 : n ≤ 1048576) (w : World) :
    Calls Tryz.prog 71 #[.agg #[.int .i64 f.id, .int .i64 f.fr, .int .i64 f.tn, .int .i64 f.pe, .int .i64 f.ph, .int .i64 f.dl], .int .i64 n] w fun e w' => e = .returned (.tuple #[.int .i64 (rel f n + f.dl - 1), .int .i64 0]) ∧ Below w.heap.size w w' := by
  have con := fun W => releaseW_any f n hf h0 h1 W
  obtain ⟨_, _, _, hp, hq, hdl, _⟩ := fault_zero hf
  have hm0 : 0 ≤ n * f.pe := Int.mul_nonneg h0 (by omega)
  have hm1 : n * f.pe ≤ 1048576 * f.pe := Int.mul_le_mul_of_nonneg_right h1 (by omega)
  unfold rel at con ⊢
  generalize hmm : n * f.pe = m at *
  clear hmm
  clear hf
  obtain ⟨id, fr, tn, pe, ph, dl⟩ := f
  dsimp only at *
  have Con := Lib.hid con
  clear con
  have hw1 : IntKind.i64.wrap (ph + m + dl - 1) = ph + m + dl - 1 := by rw [IntKind.wrap_i64]; omega
  have hw2 : IntKind.i64.wrap (ph + m + dl) = ph + m + dl := by rw [IntKind.wrap_i64]; omega
  go_enter Tryz.func71, Tryz.ntmps71
  go_wp2_with (first | (go_at_call 106; (with_reducible refine (Con.out _).mono ?_); rintro e w2 ⟨rfl, hb2⟩; have r2 := (Row.new w [.int .i64 id, .int .i64 fr, .int .i64 tn, .int .i64 pe, .int .i64 ph, .int .i64 dl] 28).below hb2 (by simp); unfold Row at r2) | fail)
  go_ret2
  exact ⟨rfl, ((Below.refl _ _).alloc (Nat.le_refl _) _).trans (hb2.mono (by simp))⟩

theorem window_okW (f : Fl) (n : Int) (hf : fault f = 0) (h0n : 0 ≤ n) (h1n : n ≤ 1048576) : FnOK Tryz.prog 70 [.agg f.pv, iv n] ⟨.tup [.c (ip (rel f n)), .c (ip (rel f n + f.pe - 1)), .c (ip 0)], none⟩ := fn_of ⟨Tryz.f70, _, Tryz.func70, by kernel_rfl, rfl⟩ fun w R hR us hus => by
  cases hus with | cons h0 _ hus =>
  cases hus with | cons h1 _ hus =>
  cases hus
  rw [fl_rep h0, h1]
  refine (WindowW_any f n hf h0n h1n w).mono ?_
  rintro e w' ⟨rfl, hb⟩
  exact ⟨_, rfl, hb, rfl, _, rfl, .cons (.c (.v _ rfl)) (.cons (.c (.v _ rfl)) (.cons (.c (.v _ rfl)) .nil))⟩

theorem due_okW (f : Fl) (n : Int) (hf : fault f = 0) (h0n : 0 ≤ n) (h1n : n ≤ 1048576) : FnOK Tryz.prog 71 [.agg f.pv, iv n] ⟨.tup [.c (ip (rel f n + f.dl - 1)), .c (ip 0)], none⟩ := fn_of ⟨Tryz.f71, _, Tryz.func71, by kernel_rfl, rfl⟩ fun w R hR us hus => by
  cases hus with | cons h0 _ hus =>
  cases hus with | cons h1 _ hus =>
  cases hus
  rw [fl_rep h0, h1]
  refine (DueW_any f n hf h0n h1n w).mono ?_
  rintro e w' ⟨rfl, hb⟩
  exact ⟨_, rfl, hb, res_vv rfl rfl⟩

end Go.Proofs.YticnppnejafhdaaGreatDoor
/- Plain facts about what a check of an explanation asks. -/
namespace Go.Proofs.YticnppnejafhdaaGreatDoor
open Go.RowKit
open Nd Rc Mo
open Av

theorem att_len (al : List Att) (fl fr a b : Int) : (onLk al fl fr a b).length ≤ al.length := by
  unfold onLk ofFrame
  exact Nat.le_trans (List.length_filter_le _ _) (List.length_filter_le _ _)

theorem onB_iff {x y : Int} : ∀ {p : List Int}, onB p x y = true ↔ ∃ i : Nat, p[i]? = some x ∧ p[i + 1]? = some y
  | [] => by simp [onB]
  | [a] => by simp [onB]
  | a :: b :: p => by
    rw [onB, Bool.or_eq_true, Bool.and_eq_true, beq_iff_eq, beq_iff_eq, onB_iff]
    constructor
    · rintro (⟨rfl, rfl⟩ | ⟨i, h1, h2⟩)
      · exact ⟨0, rfl, rfl⟩
      · exact ⟨i + 1, h1, h2⟩
    · rintro ⟨i, h1, h2⟩
      cases i with
      | zero => simp at h1 h2; exact .inl ⟨h1, h2⟩
      | succ i => exact .inr ⟨i, by simpa using h1, by simpa using h2⟩
theorem dup_lt {p : List Int} (h : dupB p = false) {i j : Nat} {x : Int} (hi : p[i]? = some x) (hj : p[j]? = some x) : ¬ j < i := by
  intro hlt
  have : dupB p = true := by
    refine List.any_eq_true.2 ⟨i, List.mem_range.2 (List.getElem?_eq_some_iff.1 hi).1, ?_⟩
    unfold dupAt
    refine List.any_eq_true.2 ⟨x, List.mem_of_getElem? (i := j) (by rw [List.getElem?_take_of_lt hlt, hj]), ?_⟩
    rw [List.getD_eq_getElem?_getD, hi]
    simp
  rw [h] at this
  cases this
theorem route_dup {n : Net} {a b : Int} {p : List Int} (h : routeE n a b p = 0) : dupB p = false := by
  cases hq : dupB p with
  | false => rfl
  | true =>
    exfalso
    unfold routeE at h
    rw [if_pos hq] at h
    split at h
    · cases h
    split at h
    · cases h
    split at h
    · cases h
    split at h
    · cases h
    cases h
theorem onB_at {n : Net} {a b : Int} {p : List Int} (h : routeE n a b p = 0) {i : Nat} {x y : Int} (hi : p[i]? = some x) : onB p x y = true ↔ p[i + 1]? = some y := by
  rw [onB_iff]
  constructor
  · rintro ⟨j, h1, h2⟩
    have g1 := dup_lt (route_dup h) hi h1
    have g2 := dup_lt (route_dup h) h1 hi
    obtain rfl : j = i := by omega
    exact h2
  · exact fun h2 => ⟨i, hi, h2⟩
theorem mem_causesX {n : Net} {f : Fl} {r : Rec} {fr a b : Int} {y : Br} (h : y ∈ causesX n f r fr a b) : y = ⟨f.id, fr, a, b, y.sl⟩ := by
  unfold causesX causesK at h
  obtain ⟨i, _, h⟩ := List.mem_flatMap.1 h
  unfold causeAt at h
  split at h
  · rw [List.mem_singleton.1 h]
  · cases h
theorem causesX_len {n : Net} {f : Fl} {r : Rec} {fr a b : Int} : (causesX n f r fr a b).length ≤ r.al.length := by
  unfold causesX
  refine Nat.le_trans (causesK_len _ _ _ _ _ _ _ _ _) ?_
  have := att_len r.al f.id fr a b
  omega
theorem contains_X {n : Net} {f : Fl} {r : Rec} {fr : Int} {c : Br} : (causesX n f r fr c.fm c.tt).contains c = (c.fl == f.id && (c.fr == fr && (causesX n f r fr c.fm c.tt).any fun y => decide (y.sl = c.sl))) := by
  rw [Bool.eq_iff_iff, List.contains_iff_mem, Bool.and_eq_true, Bool.and_eq_true, beq_iff_eq, beq_iff_eq, List.any_eq_true]
  constructor
  · intro h
    have h1 := mem_causesX h
    refine ⟨by rw [h1], by rw [h1], c, h, by simp⟩
  · rintro ⟨h1, h2, y, hy, h3⟩
    have h4 := mem_causesX hy
    have h5 : y = c := by
      rw [h4, ← h1, ← h2, of_decide_eq_true h3]
    rw [← h5, h5] at hy
    exact hy
theorem zip_all {α β : Type} {q : α × β → Bool} {l : List α} {m : List β} (h : ∀ (j : Nat) x y, l[j]? = some x → m[j]? = some y → q (x, y) = true) : (List.zip l m).all q = true := by
  rw [List.all_eq_true]
  rintro ⟨x, y⟩ hz
  obtain ⟨j, hj⟩ := List.mem_iff_getElem?.1 hz
  rw [List.getElem?_zip_eq_some] at hj
  exact h j x y hj.1 hj.2
theorem zip_not {α β : Type} {q : α × β → Bool} {l : List α} {m : List β} {j : Nat} {x : α} {y : β} (hx : l[j]? = some x) (hy : m[j]? = some y) (h : q (x, y) = false) : (List.zip l m).all q = false := by
  rw [Bool.eq_false_iff]
  intro h2
  have : (x, y) ∈ List.zip l m := List.mem_of_getElem? (i := j) (List.getElem?_zip_eq_some.2 ⟨hx, hy⟩)
  rw [List.all_eq_true] at h2
  rw [h2 _ this] at h
  cases h

theorem sl_len {n : Net} {f : Fl} {r : Rec} {fr a b : Int} {y : Br} (h : y ∈ causesX n f r fr a b) : y.sl.length ≤ r.al.length := by
  have hl := att_len r.al f.id fr a b
  unfold causesX causesK at h
  obtain ⟨i, _, h⟩ := List.mem_flatMap.1 h
  unfold causeAt at h
  split at h
  · rw [List.mem_singleton.1 h]
    simp only [List.length_map, List.length_take, List.length_drop]
    omega
  · cases h
end Go.Proofs.YticnppnejafhdaaGreatDoor
/- The library's contract that this claim uses, laid for its program: written by a tool of the kit. -/
namespace Go.Proofs.YticnppnejafhdaaGreatDoor
open Go.Shelf
def Tryz.lays138_ren : Go.Shelf.Ren := ⟨fun | 138 => 27 | 195 => 52 | 218 => 53 | 143 => 54 | 219 => 90 | 217 => 127 | 225 => 128 | 224 => 129 | 267 => 130 | 266 => 160 | 314 => 161 | n => n, fun | 9 => 9 | 3 => 3 | 4 => 4 | 5 => 5 | 0 => 0 | 46 => 141 | 146 => 194 | 51 => 172 | n => n, fun | 1 => 0 | n => n⟩
theorem Tryz.lays138 : Go.Proofs.Lays.n138 Tryz.prog Tryz.lays138_ren := {
  mixed := by kernel_rfl
  f138 := Tryz.func27.trans (congrArg some (by kernel_rfl))
  f143 := Tryz.func54.trans (congrArg some (by kernel_rfl))
  f195 := Tryz.func52.trans (congrArg some (by kernel_rfl))
  f217 := Tryz.func127.trans (congrArg some (by kernel_rfl))
  f218 := Tryz.func53.trans (congrArg some (by kernel_rfl))
  f219 := Tryz.func90.trans (congrArg some (by kernel_rfl))
  f224 := Tryz.func129.trans (congrArg some (by kernel_rfl))
  f225 := Tryz.func128.trans (congrArg some (by kernel_rfl))
  f266 := Tryz.func160.trans (congrArg some (by kernel_rfl))
  f267 := Tryz.func130.trans (congrArg some (by kernel_rfl))
  f314 := Tryz.func161.trans (congrArg some (by kernel_rfl))
  t0 := Tryz.underlying0
  a0 := Tryz.isAgg0
  z0 := Tryz.sizeOf0
  v0 := Tryz.zeroValue0
  t3 := Tryz.underlying3
  a3 := Tryz.isAgg3
  z3 := Tryz.sizeOf3
  v3 := Tryz.zeroValue3
  t4 := Tryz.underlying4
  a4 := Tryz.isAgg4
  z4 := Tryz.sizeOf4
  v4 := Tryz.zeroValue4
  t5 := Tryz.underlying5
  a5 := Tryz.isAgg5
  z5 := Tryz.sizeOf5
  v5 := Tryz.zeroValue5
  t9 := Tryz.underlying9
  a9 := Tryz.isAgg9
  z9 := Tryz.sizeOf9
  v9 := Tryz.zeroValue9
  t46 := Tryz.underlying141
  a46 := Tryz.isAgg141
  z46 := Tryz.sizeOf141
  v46 := Tryz.zeroValue141
  t51 := Tryz.underlying172
  a51 := Tryz.isAgg172
  z51 := Tryz.sizeOf172
  v51 := Tryz.zeroValue172
  t146 := Tryz.underlying194
  a146 := Tryz.isAgg194
  z146 := Tryz.sizeOf194
  v146 := Tryz.zeroValue194
  g1 := by kernel_rfl }
end Go.Proofs.YticnppnejafhdaaGreatDoor
/- What an argument's reading says of its cells, for types made of integers, bools, strings, structs and slices. Generic: no program's numbers. -/
namespace Go.Proofs.YticnppnejafhdaaGreatDoor
open Go.RowKit Go.ChangeShapes Go.WideShapes Go.Deep

/-- Shapes of types; the fields of a struct by 'nil' and 'cons'. -/
inductive Ty where
  | int (k : IntKind)
  | bool
  | str
  | slice (e : Ty)
  | struct (l : Ty)
  | nil
  | cons (a l : Ty)

def Ty.cells : Ty → Nat
  | .int _ | .bool | .str | .slice _ => 1
  | .struct l => l.cells
  | .nil => 0
  | .cons a l => a.cells + l.cells

mutual
def Ty.fits (P : Program) : Ty → TypeId → Bool
  | .int k, t => match P.underlying t with
    | some (.int k') => decide (k = k')
    | _ => false
  | .bool, t => match P.underlying t with
    | some .bool => true
    | _ => false
  | .str, t => match P.underlying t with
    | some .string => true
    | _ => false
  | .slice e, t => match P.underlying t with
    | some (.slice u) => e.fits P u && P.cellsOf u == e.cells
    | _ => false
  | .struct l, t => match P.underlying t with
    | some (.struct fs) => l.fitsF P fs.toList 0
    | _ => false
  | .nil, _ => false
  | .cons _ _, _ => false
def Ty.fitsF (P : Program) : Ty → List Field → Nat → Bool
  | .nil, [], _ => true
  | .cons a l, f :: fs, off => f.offset == off && (P.cellsOf f.type == a.cells && (a.fits P f.type && l.fitsF P fs (off + a.cells)))
  | _, _, _ => false
end

/-- The cells cs hold a value of that shape. -/
def Ty.holds (w : World) : Ty → List Value → Prop
  | .int k, cs => ∃ n, cs = [.int k n] ∧ (Lit.int k n).wf = true
  | .bool, cs => ∃ b, cs = [.bool b]
  | .str, cs => ∃ s : ByteArray, cs = [.string s] ∧ s.size ≤ maxLen
  | .slice e, cs => ∃ A n c, cs = [.slice A n c] ∧ n ≤ c ∧ c ≤ maxLen ∧ (A = none → n = 0) ∧ ∀ a, A = some a → ∀ i, i < n → ∃ es, es.length = e.cells ∧ e.holds w es ∧ ∀ j u, es[j]? = some u → w.cell? (a.add (i * e.cells + j)) = some u
  | .struct l, cs => l.holds w cs
  | .nil, _ => True
  | .cons a l, cs => a.holds w (cs.take a.cells) ∧ l.holds w (cs.drop a.cells)

section
variable {H : Type} {enc : TypeId × Value → H} {P : Program} {w : World} {base : Nat} {spare : Nat → Bool} {held : Bool}

theorem add_add_ (a : Addr) (i j : Nat) : (a.add i).add j = a.add (i + j) := (Go.Deep.add_add a i j)

mutual
theorem Ty.holds_of : ∀ (τ : Ty) (t : TypeId) (fuel : Nat) (cs : List Value) (x : DataW H × List MemPlace), τ.fits P t = true → DataW.trod enc P w base spare held fuel t cs = some x → τ.holds w cs
  | .int k, t, fuel, cs, x, hf, h => by
    simp only [Ty.fits] at hf
    split at hf
    · rename_i k' hu
      obtain rfl : k = k' := by simpa using hf
      obtain ⟨n, e, _, hw⟩ := DataW.trod_int hu h
      exact ⟨n, e, hw⟩
    · cases hf
  | .bool, t, fuel, cs, x, hf, h => by
    simp only [Ty.fits] at hf
    split at hf
    · rename_i hu
      obtain ⟨n, e, _⟩ := DataW.trod_bool hu h
      exact ⟨n, e⟩
    · cases hf
  | .str, t, fuel, cs, x, hf, h => by
    simp only [Ty.fits] at hf
    split at hf
    · rename_i hu
      obtain ⟨n, e, _, hl⟩ := DataW.trod_string hu h
      exact ⟨n, e, hl⟩
    · cases hf
  | .slice e, t, fuel, cs, x, hf, h => by
    simp only [Ty.fits] at hf
    split at hf
    · rename_i u hu
      simp only [Bool.and_eq_true, beq_iff_eq] at hf
      obtain ⟨hfe, hce⟩ := hf
      rcases open_slice hu h with ⟨rfl, _⟩ | ⟨a, len, cap, m, n, D, Pl, rfl, hb, hl, hm, hmm, _, hel⟩
      · exact ⟨none, 0, 0, rfl, Nat.le_refl _, Nat.zero_le _, fun _ => rfl, fun a ha => by cases ha⟩
      · refine ⟨some a, len, cap, rfl, hl, hm, fun h0 => (by cases h0), fun a' ha i hi => ?_⟩
        cases ha
        have him : i < m := by rw [hmm]; split <;> omega
        obtain ⟨cs', hc, ht⟩ := hel i him
        rw [hce] at hc
        obtain ⟨_, hlen, hat⟩ := World.cells?_some hc
        refine ⟨cs', hlen, Ty.holds_of e u n cs' _ hfe ht, fun j v hv => ?_⟩
        have hj : j < e.cells := by rw [← hlen]; exact (List.getElem?_eq_some_iff.1 hv).1
        have := hat j hj
        rw [add_add_] at this
        rw [this, hv]
    · cases hf
  | .struct l, t, fuel, cs, x, hf, h => by
    simp only [Ty.fits] at hf
    split at hf
    · rename_i fs hu
      obtain ⟨xs, n, _, _, _, hlen, hff⟩ := DataW.trod_struct hu h
      have := Ty.holds_ofF l fs.toList 0 cs n hf (fun f hm => by
        obtain ⟨i, hi, e⟩ := List.getElem_of_mem hm
        have hi' : i < fs.size := by simpa using hi
        have h1 : fs[i]? = some f := by rw [Array.getElem?_eq_getElem hi']; simpa using e
        have h2 := hff i f h1
        rw [List.getElem?_eq_getElem (by omega)] at h2
        exact ⟨_, h2⟩)
      simpa [Ty.holds] using this
    · cases hf
  | .nil, _, _, _, _, hf, _ => by simp [Ty.fits] at hf
  | .cons _ _, _, _, _, _, hf, _ => by simp [Ty.fits] at hf
theorem Ty.holds_ofF : ∀ (l : Ty) (fs : List Field) (off : Nat) (cs : List Value) (n : Nat), l.fitsF P fs off = true → (∀ f ∈ fs, ∃ y, DataW.trod enc P w base spare held n f.type ((cs.drop f.offset).take (P.cellsOf f.type)) = some y) → l.holds w (cs.drop off)
  | .nil, _, _, _, _, _, _ => by simp [Ty.holds]
  | .cons a l, [], _, _, _, hf, _ => by simp [Ty.fitsF] at hf
  | .cons a l, f :: fs, off, cs, n, hf, h => by
    simp only [Ty.fitsF, Bool.and_eq_true, beq_iff_eq] at hf
    obtain ⟨h1, h2, h3, h4⟩ := hf
    obtain ⟨y, hy⟩ := h f List.mem_cons_self
    rw [h1, h2] at hy
    refine ⟨Ty.holds_of a f.type n _ _ h3 hy, ?_⟩
    rw [List.drop_drop]
    exact Ty.holds_ofF l fs (off + a.cells) cs n h4 fun g hg => h g (List.mem_cons_of_mem _ hg)
  | .int _, _, _, _, _, hf, _ => by simp [Ty.fitsF] at hf
  | .bool, _, _, _, _, hf, _ => by simp [Ty.fitsF] at hf
  | .str, _, _, _, _, hf, _ => by simp [Ty.fitsF] at hf
  | .slice _, _, _, _, _, hf, _ => by simp [Ty.fitsF] at hf
  | .struct _, _, _, _, _, hf, _ => by simp [Ty.fitsF] at hf
end

theorem Ty.holds_trod {τ : Ty} {t : TypeId} {v : Value} {d : DataW H} {p : List MemPlace} (hf : τ.fits P t = true) (h : DataW.Trod enc P w base spare held t v d p) : τ.holds w v.cells.toList := by
  obtain ⟨fuel, h⟩ := h
  exact Ty.holds_of τ t fuel _ _ hf h
end

theorem cell_lt {w : World} {a : Addr} {u : Value} (h : w.cell? a = some u) : a.block < w.heap.size ∧ a.spot = none := by
  unfold World.cell? at h
  split at h
  · rename_i c t fr hh
    refine ⟨?_, ?_⟩
    · rcases Nat.lt_or_ge a.block w.heap.size with h' | h'
      · exact h'
      · rw [Array.getElem?_eq_none h'] at hh; cases hh
    · split at h
      · cases h
      · rename_i hs
        cases hsp : a.spot with
        | none => rfl
        | some s => rw [hsp] at hs; simp at hs
  · cases h

/-- A list out of what is known of each index. -/
theorem list_of {α : Type} {Q : Nat → α → Prop} : ∀ (n : Nat), (∀ i, i < n → ∃ x, Q i x) → ∃ l : List α, l.length = n ∧ ∀ i x, l[i]? = some x → Q i x
  | 0, _ => ⟨[], rfl, fun i x h => by simp at h⟩
  | n + 1, h => by
    obtain ⟨l, hl, hq⟩ := list_of n fun i hi => h i (by omega)
    obtain ⟨x, hx⟩ := h n (by omega)
    refine ⟨l ++ [x], by simp [hl], fun i y hy => ?_⟩
    rcases Nat.lt_or_ge i n with hi | hi
    · rw [List.getElem?_append_left (by omega)] at hy
      exact hq i y hy
    · rw [List.getElem?_append_right (by omega)] at hy
      obtain rfl : i = n := by
        rcases Nat.lt_or_ge (i - l.length) 1 with h1 | h1
        · omega
        · rw [List.getElem?_eq_none (by simpa using h1)] at hy; cases hy
      rw [hl, Nat.sub_self] at hy
      simp at hy
      subst hy
      exact hx

end Go.Proofs.YticnppnejafhdaaGreatDoor
/- Arguments of the laws of the monitor, opened. -/
namespace Go.Proofs.YticnppnejafhdaaGreatDoor
open Go.RowKit
open Nd Rc Mo
open Av
set_option maxRecDepth 100000
set_option linter.unusedSimpArgs false
open Go.ChangeShapes Go.WideShapes Go.ChangeAt

def cellR (w : World) : Reader := fun p => w.cell? p
theorem RepL.get {R : Reader} {ps : List PV} {us : List Value} (h : RepL R ps us) : us.length = ps.length ∧ ∀ (j : Nat) (p : PV), ps[j]? = some p → ∃ u, us[j]? = some u ∧ RepP R p u := by
  induction h with
  | nil => exact ⟨rfl, fun j p h => by simp at h⟩
  | cons h t ih =>
    refine ⟨by simp [ih.1], fun j p hj => ?_⟩
    cases j with
    | zero =>
      simp only [List.getElem?_cons_zero, Option.some.injEq] at hj
      subst hj
      exact ⟨_, rfl, h⟩
    | succ j => exact ih.2 j p (by simpa using hj)
/-- A slice, read by f. -/
theorem rep_of_slice {α : Type} {f : α → List PV} {w : World} {e : Ty} {A : Option Addr} {n c : Nat} (hz : 0 < e.cells) (hnc : n ≤ c) (hnil : A = none → n = 0) (hr : ∀ es, es.length = e.cells → e.holds w es → ∃ x, RepL (cellR w) (f x) es)
    (h : ∀ a, A = some a → ∀ i, i < n → ∃ es, es.length = e.cells ∧ e.holds w es ∧ ∀ j u, es[j]? = some u → w.cell? (a.add (i * e.cells + j)) = some u) :
    ∃ l : List α, l.length = n ∧ RepP (cellR w) (.sl e.cells (l.map f)) (.slice A n c) := by
  cases A with
  | none =>
    obtain rfl := hnil rfl
    exact ⟨[], rfl, .sl e.cells [] none c (fun _ _ => undef) (fun k row hk => by simp at hk) (.inl rfl) (fun k row j p hk => by simp at hk) (Nat.zero_le _)⟩
  | some a =>
    obtain ⟨l, hl, hq⟩ := list_of (Q := fun i x => ∃ es, es.length = e.cells ∧ RepL (cellR w) (f x) es ∧ ∀ j u, es[j]? = some u → w.cell? (a.add (i * e.cells + j)) = some u) n fun i hi => by
      obtain ⟨es, h1, h2, h3⟩ := h a rfl i hi
      obtain ⟨x, hx⟩ := hr es h1 h2
      exact ⟨x, es, h1, hx, h3⟩
    refine ⟨l, hl, ?_⟩
    have hrow : ∀ (k : Nat) (row : List PV), (l.map f)[k]? = some row → row.length = e.cells ∧ ∀ (j : Nat) (p : PV), row[j]? = some p → ∃ u, w.cell? (a.add (k * e.cells + j)) = some u ∧ RepP (cellR w) p u := fun k row hk => by
      rw [List.getElem?_map] at hk
      cases hx : l[k]? with
      | none => rw [hx] at hk; cases hk
      | some x =>
        rw [hx] at hk
        obtain rfl := Option.some.inj hk
        obtain ⟨es, h1, h2, h3⟩ := hq k x hx
        obtain ⟨g1, g2⟩ := RepL.get h2
        refine ⟨by rw [← g1, h1], fun j p hj => ?_⟩
        obtain ⟨u, hu, hp⟩ := g2 j p hj
        exact ⟨u, h3 j u hu, hp⟩
    have hlen : n = (l.map f).length := by rw [List.length_map, hl]
    rw [hlen]
    refine .sl e.cells (l.map f) (some a) c (fun k j => (w.cell? (a.add (k * e.cells + j))).getD undef) (fun k row hk => (hrow k row hk).1) ?_ (fun k row j p hk hj => ?_) (by rw [← hlen]; exact hnc)
    · by_cases hn : l = []
      · exact .inl (by rw [hn]; rfl)
      · right
        have h0 : 0 < l.length := by
          rcases Nat.eq_zero_or_pos l.length with h0 | h0
          · exact absurd (List.eq_nil_of_length_eq_zero h0) hn
          · exact h0
        obtain ⟨x0, hx0⟩ := get_of_lt h0
        obtain ⟨q1, q2⟩ := hrow 0 (f x0) (by rw [List.getElem?_map, hx0]; rfl)
        obtain ⟨p0, hp0⟩ := get_of_lt (l := f x0) (k := 0) (by rw [q1]; exact hz)
        obtain ⟨u0, hu0, _⟩ := q2 0 p0 hp0
        have ha0 : a.add 0 = a := by simp [Addr.add]
        rw [show 0 * e.cells + 0 = 0 by omega, ha0] at hu0
        obtain ⟨_, hsp⟩ := cell_lt hu0
        obtain ⟨b, off, sp⟩ := a
        dsimp only at hsp
        subst hsp
        have hadd : ∀ i : Nat, (⟨b, off, none⟩ : Addr).add i = ⟨b, off + i, none⟩ := fun i => by
          unfold Addr.add
          split
          · rename_i h0; rw [h0]; rfl
          · rfl
        refine ⟨b, off, rfl, fun k row j p hk hj => ?_⟩
        obtain ⟨u, hu, _⟩ := (hrow k row hk).2 j p hj
        rw [hu]
        rw [hadd, ← Nat.add_assoc] at hu
        exact hu
    · obtain ⟨u, hu, hp⟩ := (hrow k row hk).2 j p hj
      rw [hu]; exact hp
def Ty.qi : Ty := .int .i64
def Ty.qatt : Ty := .struct (.cons .qi (.cons .qi (.cons (.struct (.cons .qi (.cons .qi (.cons .qi (.cons .qi (.cons .qi .nil)))))) (.cons .qi .nil))))
def Ty.qdlv : Ty := .struct (.cons .qi (.cons .qi (.cons .qi .nil)))
def Ty.qrec : Ty := .struct (.cons .qi (.cons (.struct (.cons (.slice .qatt) (.cons (.slice .qdlv) .nil))) .nil))
def Ty.qflow : Ty := .struct (.cons .qi (.cons .qi (.cons .qi (.cons .qi (.cons .qi (.cons .qi .nil))))))
def Ty.qnet : Ty := .struct (.cons .qi (.cons (.slice (.slice .qi)) (.cons .qi (.cons .qi (.cons (.slice .qdlv) (.cons (.slice .qi) .nil))))))
theorem Tryz.fitsQrec : Ty.qrec.fits Tryz.prog 35 = true := by kernel_rfl
theorem Tryz.fitsQnet : Ty.qnet.fits Tryz.prog 26 = true := by kernel_rfl
theorem Tryz.fitsQflow1 : Ty.qflow.fits Tryz.prog 28 = true := by kernel_rfl
theorem Tryz.fitsQroutes : (Ty.slice (.slice .qi)).fits Tryz.prog 29 = true := by kernel_rfl
theorem qatt_of {w : World} (es : List Value) (hl : es.length = Ty.qatt.cells) (h : Ty.qatt.holds w es) : ∃ a : Att, RepL (cellR w) a.pv es := by
  match es, hl with
  | [c0, c1, c2, c3, c4, c5, c6, c7], _ =>
    simp only [Ty.qatt, Ty.qi, Ty.holds, Ty.cells, List.take, List.drop] at h
    obtain ⟨⟨n0, h0, _⟩, ⟨n1, h1, _⟩, ⟨⟨n2, h2, _⟩, ⟨n3, h3, _⟩, ⟨n4, h4, _⟩, ⟨n5, h5, _⟩, ⟨n6, h6, _⟩, _⟩, ⟨n7, h7, _⟩, _⟩ := h
    simp only [List.cons.injEq, and_true] at h0 h1 h2 h3 h4 h5 h6 h7
    subst h0 h1 h2 h3 h4 h5 h6 h7
    exact ⟨⟨n0, n1, n2, n3, n4, n5, n6, n7⟩, .cons (.v _ rfl) (.cons (.v _ rfl) (.cons (.v _ rfl) (.cons (.v _ rfl) (.cons (.v _ rfl) (.cons (.v _ rfl) (.cons (.v _ rfl) (.cons (.v _ rfl) .nil)))))))⟩
theorem qdlv_of {w : World} (es : List Value) (hl : es.length = Ty.qdlv.cells) (h : Ty.qdlv.holds w es) : ∃ a : Dlv, RepL (cellR w) a.pv es := by
  match es, hl with
  | [c0, c1, c2], _ =>
    simp only [Ty.qdlv, Ty.qi, Ty.holds, Ty.cells, List.take, List.drop] at h
    obtain ⟨⟨n0, h0, _⟩, ⟨n1, h1, _⟩, ⟨n2, h2, _⟩, _⟩ := h
    simp only [List.cons.injEq, and_true] at h0 h1 h2
    subst h0 h1 h2
    exact ⟨⟨n0, n1, n2⟩, .cons (.v _ rfl) (.cons (.v _ rfl) (.cons (.v _ rfl) .nil))⟩
theorem qlk_of {w : World} (es : List Value) (hl : es.length = Ty.qdlv.cells) (h : Ty.qdlv.holds w es) : ∃ a : Lk, RepL (cellR w) a.pv es := by
  obtain ⟨⟨x, y, z⟩, h⟩ := qdlv_of es hl h
  exact ⟨⟨x, y, z⟩, h⟩
theorem qint_of {w : World} (es : List Value) (_hl : es.length = Ty.qi.cells) (h : Ty.qi.holds w es) : ∃ a : Int, RepL (cellR w) (irow_pv a) es := by
  obtain ⟨n, rfl, _⟩ := h
  exact ⟨n, .cons (.v _ rfl) .nil⟩
theorem qflow_of {w : World} (es : List Value) (hl : es.length = Ty.qflow.cells) (h : Ty.qflow.holds w es) : ∃ a : Fl, RepL (cellR w) a.pv es := by
  match es, hl with
  | [c0, c1, c2, c3, c4, c5], _ =>
    simp only [Ty.qflow, Ty.qi, Ty.holds, Ty.cells, List.take, List.drop] at h
    obtain ⟨⟨n0, h0, _⟩, ⟨n1, h1, _⟩, ⟨n2, h2, _⟩, ⟨n3, h3, _⟩, ⟨n4, h4, _⟩, ⟨n5, h5, _⟩, _⟩ := h
    simp only [List.cons.injEq, and_true] at h0 h1 h2 h3 h4 h5
    subst h0 h1 h2 h3 h4 h5
    exact ⟨⟨n0, n1, n2, n3, n4, n5⟩, .cons (.v _ rfl) (.cons (.v _ rfl) (.cons (.v _ rfl) (.cons (.v _ rfl) (.cons (.v _ rfl) (.cons (.v _ rfl) .nil)))))⟩
theorem qpow_of {w : World} (es : List Value) (_hl : es.length = (Ty.slice .qi).cells) (h : (Ty.slice .qi).holds w es) : ∃ a : List Int, RepL (cellR w) (prow_pv a) es := by
  obtain ⟨A, n, c, rfl, hc, hm, hn, he⟩ := h
  obtain ⟨l, _, hr⟩ := rep_of_slice (f := irow_pv) (e := Ty.qi) (by decide) hc hn qint_of he
  exact ⟨l, .cons hr .nil⟩
section
variable {H : Type} {enc : TypeId × Value → H} {W : World} {base : Nat} {spare : Nat → Bool} {held : Bool} {r : Reach} {b0 : Nat} {v : Value} {d : DataW H} {p : List MemPlace}
theorem open_recP (hv : Value.okWide Tryz.prog W r b0 35 v) (h : DataW.Trod enc Tryz.prog W base spare held 35 v d p) : ∃ q : Rec, RepA (cellR W) (fun _ => 0) (.agg q.pv) v := by
  obtain ⟨cs, rfl, hsz⟩ := okWide_struct Tryz.underlying35 hv
  have hh := Ty.holds_trod (τ := Ty.qrec) Tryz.fitsQrec h
  obtain ⟨l⟩ := cs
  match l, hsz with
  | [c0, c1, c2], _ =>
    simp only [Value.cells, Ty.qrec, Ty.qi, Ty.holds, Ty.cells, List.take, List.drop] at hh
    obtain ⟨⟨n0, h0, w0⟩, ⟨⟨A, n, ca, h1, hc1, hm1, hn1, he1⟩, ⟨D, m, cd, h2, hc2, hm2, hn2, he2⟩, _⟩, _⟩ := hh
    simp only [List.cons.injEq, and_true] at h0 h1 h2
    subst h0 h1 h2
    obtain ⟨la, _, lA⟩ := rep_of_slice (f := Att.pv) (e := Ty.qatt) (by decide) hc1 hn1 qatt_of he1
    obtain ⟨ld, _, lD⟩ := rep_of_slice (f := Dlv.pv) (e := Ty.qdlv) (by decide) hc2 hn2 qdlv_of he2
    exact ⟨⟨n0, la, ld⟩, _, rfl, .cons (.v _ rfl) (.cons lA (.cons lD .nil))⟩
theorem open_netP (hv : Value.okWide Tryz.prog W r b0 26 v) (h : DataW.Trod enc Tryz.prog W base spare held 26 v d p) : ∃ q : Net, q.pow.length ≤ 9223372036854775807 ∧ RepA (cellR W) (fun _ => 0) (.agg q.pv) v := by
  obtain ⟨cs, rfl, hsz⟩ := okWide_struct Tryz.underlying26 hv
  have hh := Ty.holds_trod (τ := Ty.qnet) Tryz.fitsQnet h
  obtain ⟨l⟩ := cs
  match l, hsz with
  | [c0, c1, c2, c3, c4, c5], _ =>
    have hh' : Ty.holds W .qi [c0] ∧ Ty.holds W (.slice (.slice .qi)) [c1] ∧ Ty.holds W .qi [c2] ∧ Ty.holds W .qi [c3] ∧ Ty.holds W (.slice .qdlv) [c4] ∧ Ty.holds W (.slice .qi) [c5] ∧ True := hh
    obtain ⟨⟨n0, h0, _⟩, ⟨P, n, cp, h1, hc1, hm1, hn1, he1⟩, ⟨n2, h2, _⟩, ⟨n3, h3, _⟩, ⟨L, m, cl, h4, hc4, hm4, hn4, he4⟩, ⟨G, k, cg, h5, hc5, hm5, hn5, he5⟩, _⟩ := hh'
    simp only [List.cons.injEq, and_true] at h0 h1 h2 h3 h4 h5
    subst h0 h1 h2 h3 h4 h5
    obtain ⟨lp, ep, lP⟩ := rep_of_slice (f := prow_pv) (e := Ty.slice .qi) (by decide) hc1 hn1 qpow_of he1
    obtain ⟨ll, _, lL⟩ := rep_of_slice (f := Lk.pv) (e := Ty.qdlv) (by decide) hc4 hn4 qlk_of he4
    obtain ⟨lg, _, lG⟩ := rep_of_slice (f := irow_pv) (e := Ty.qi) (by decide) hc5 hn5 qint_of he5
    have hmx : maxLen = 9223372036854775807 := by decide
    exact ⟨⟨n0, n2, n3, lp, ll, lg⟩, (by show lp.length ≤ _; rw [ep]; omega), _, rfl, .cons (.v _ rfl) (.cons lP (.cons (.v _ rfl) (.cons (.v _ rfl) (.cons lL (.cons lG .nil)))))⟩
theorem open_flowP (hv : Value.okWide Tryz.prog W r b0 28 v) (h : DataW.Trod enc Tryz.prog W base spare held 28 v d p) : ∃ q : Fl, RepA (cellR W) (fun _ => 0) (.agg q.pv) v := by
  obtain ⟨cs, rfl, hsz⟩ := okWide_struct Tryz.underlying28 hv
  have hh := Ty.holds_trod (τ := Ty.qflow) Tryz.fitsQflow1 h
  obtain ⟨l⟩ := cs
  obtain ⟨q, hq⟩ := qflow_of l hsz hh
  exact ⟨q, l, rfl, hq⟩
theorem open_routesP (hv : Value.okWide Tryz.prog W r b0 29 v) (h : DataW.Trod enc Tryz.prog W base spare held 29 v d p) : ∃ ps : List (List Int), ps.length ≤ 9223372036854775807 ∧ RepA (cellR W) (fun _ => 0) (.sl 1 (ps.map prow_pv)) v := by
  obtain ⟨a, len, cap, rfl⟩ := okWide_slice Tryz.underlying29 hv
  have hh := Ty.holds_trod (τ := .slice (.slice .qi)) Tryz.fitsQroutes h
  obtain ⟨A, n, c, h1, hc, hm, hn, he⟩ := hh
  simp only [Value.cells, List.cons.injEq, and_true, Value.slice.injEq] at h1
  obtain ⟨rfl, rfl, rfl⟩ := h1
  obtain ⟨l, el, hr⟩ := rep_of_slice (f := prow_pv) (e := Ty.slice .qi) (by decide) hc hn qpow_of he
  have hmx : maxLen = 9223372036854775807 := by decide
  exact ⟨l, by rw [el]; omega, hr⟩
end
theorem Tryz.laidOut : laidOutB Tryz.prog = true := by kernel_rfl
theorem Tryz.own : ownKnob Tryz.prog.godebug = none := by kernel_rfl
def laid3 : List (String × DataW Unit) := [("math/bits.deBruijn32tab", Rows.laid_math_bits_deBruijn32tab), ("math/bits.deBruijn64tab", Rows.laid_math_bits_deBruijn64tab), ("internal/strconv.uint64pow10", Rows.laid_internal_strconv_uint64pow10)]
theorem door_met (os : Os) (args : Array Value) : laidMetH Tryz.prog laid3 ((World.doorLaid Tryz.prog 400 os).forCall (fun _ _ => 0) ⟨#[], args, []⟩).memory :=
  laidMetH_of_parts3 (fuel := 8) (laidMet_of_run' 8 (by kernel_rfl) (by kernel_rfl)) (by kernel_rfl) (by kernel_rfl)

section
variable {H : Type} {enc : TypeId × Value → H} {P : Program}
/-- What the row asks behind a call that only made new memory. (After the guide's small lemmas.) -/
theorem post_of_below {f : Func} {s : ChangeSpec} {apart fresh handsOn again : Bool} {W W' : World} {args : Array Value} {v : Value} {ds gs : List (DataW H)} {before pa pv : List MemPlace}
    (hW : DataW.Whole enc P f.params.toList s.vars apart W args.toList ds gs before)
    (hres : ∀ (b : Nat) (sp : Nat → Bool) (hd : Bool), DataW.TrodAll enc P W' b sp hd f.resultTypes.toList (v.resultList f.resultTypes.size) (s.fn H (ds ++ gs)).results [])
    (hargs : ∀ sp : Nat → Bool, (∀ p ∈ before, sp p.block = true) → DataW.TrodAll enc P W' 0 sp true f.params.toList args.toList (s.fn H (ds ++ gs)).args pa)
    (hvars : ∀ sp : Nat → Bool, (∀ p ∈ before, sp p.block = true) → DataW.TrodVars enc P W' sp s.vars (s.fn H (ds ++ gs)).vars pv)
    (hps : before = pa ++ pv) (hb : Below W.heap.size W W')
    (hok : ∀ (j : Nat) (t : TypeId) (r : Value), f.resultTypes[j]? = some t → (v.resultList f.resultTypes.size)[j]? = some r → Value.okWide P W' .any 0 t r) :
    s.post enc P f apart fresh handsOn again W args v W' := by
  have hlt : ∀ p ∈ before, p.block < W.heap.size := fun p hp => hW.lt p hp
  have hold : ∀ p ∈ before, (fun b => decide (b < W.heap.size)) p.block = true := fun p hp => by simpa using hlt p hp
  refine ⟨ds, gs, before, [], pa, pv, hW, hres _ _ _, hargs _ hold, hvars _ hold, World.keptBut_mono (fun p hp => ⟨hp, ?_⟩) (hb.frame (· ∈ before)), fun _ => ?_⟩
  · rw [hps, List.mem_append] at hp
    exact Or.inr hp
  · obtain ⟨_, _, _, _, _, hz, hn⟩ := hW
    refine ⟨hok, _, _, ([] ++ pa) ++ pv, ⟨[] ++ pa, pv, trodAll_append (hargs _ (fun _ _ => rfl)) (hres _ _ _), hvars _ (fun _ _ => rfl), rfl, ?_, ?_⟩, ?_⟩
    · intro b off hp
      have hin : MemPlace.cell b off ∈ before := by rw [hps]; simpa using hp
      rw [hb.frozen (hlt _ hin)]
      exact hz b off hin
    · intro ha
      have := hn ha
      rw [hps] at this
      simpa using this
    · intro p hp _
      rw [hps]
      simpa using hp
end
end Go.Proofs.YticnppnejafhdaaGreatDoor
/- What the listed tables are. -/
namespace Go.Proofs.YticnppnejafhdaaGreatDoor
open Go.RowKit
open Nd Rc Mo
open Av
set_option maxRecDepth 100000
set_option linter.unusedSimpArgs false

/-- What a row's list of tables says of the powers of ten. -/
theorem tab_of_laid {W : World} (h : laidMetH Tryz.prog laid3 W) : TabC W := by
  have h0 : laidMet Tryz.prog laid3 W := h
  have h1 := laidMet.tail (laidMet.tail h0)
  have e : (Rows.laid_internal_strconv_uint64pow10 : DataW Unit) = Lib.tabData .u64 Lib.pow10Tab := by kernel_rfl
  rw [e] at h1
  exact Lib.tabIs_of_head (g := 1) (t := 215) (e := 184) (n := 20) (by kernel_rfl) (by kernel_rfl) Tryz.underlying215 Tryz.underlying184 (by kernel_rfl) (by kernel_rfl) h1
theorem calls_trueC {P : Program} {C : World → Prop} {f : FuncId} {args : List AV} (h : FnOKC P C f args ⟨bv true, none⟩) (W : World) (hC : C W) (us : List Value) (hus : RepAL (cellR W) args us) : Calls P f us.toArray W fun e W' => e = .returned (.bool true) ∧ Below W.heap.size W W' :=
  (h.2 W (cellR W) hC (fun _ _ h => h) us hus).mono fun e W' hq => by
    obtain ⟨u, rfl, hb, _, hr⟩ := hq
    exact ⟨by rw [show u = .bool true from hr], hb⟩
end Go.Proofs.YticnppnejafhdaaGreatDoor
/- IndexFunc and ContainsFunc by abstract states, at whatever closure. -/
namespace Go.Proofs.YticnppnejafhdaaGreatDoor
open Go.RowKit
open Nd Rc Mo
open Av
set_option maxRecDepth 100000
set_option linter.unusedSimpArgs false
attribute [local go_sem] Av.guardB Av.sop Av.hopx Av.hop Av.hopCall Av.hopF Av.hopB Av.evo Av.evos Av.avCells Av.loadK Av.bound Av.abin Av.aun Av.partsC Av.lfill Av.placesB Av.setAt Av.stl Av.takes Av.src Av.bxOf Av.ownOf Av.St.res Av.St.put Av.St.addBox Av.St.putOwn Av.delL Av.delS Av.look Av.lookL Av.storeSt Av.stealSt Av.St.setBox Av.keepL Av.hitB Av.snap Av.snaps Av.snapCaps Av.AV.lit Av.AV.refs Av.capRefs Av.PV.av Av.CV.av Av.startSt Av.steals Av.athen Av.ablock Av.appK Av.AllS Av.AllO Av.AllR Av.keepS Av.St.avAt Av.RetOK Av.retAll Av.retOne Av.intsOf Av.ptrB TypeDesc.isRow List.range_zero Option.some.injEq exists_eq_left' exists_eq_left exists_eq' exists_and_left exists_and_right exists_const true_and and_true and_self false_and and_false or_false false_or or_true true_or if_true if_false Bool.false_eq_true List.zipIdx_cons List.zipIdx_nil List.map_cons List.map_nil List.filter_cons List.filter_nil List.contains_cons List.contains_nil List.drop_succ_cons List.drop_zero List.take_succ_cons List.take_zero List.take_nil List.drop_nil List.length_cons List.length_nil List.cons_append List.nil_append List.append_nil List.getElem?_cons_zero List.getElem?_cons_succ List.getElem?_nil Option.bind_some Option.bind_none Option.map_some Option.map_none Option.isNone_none Option.isNone_some Option.isSome_some Option.isSome_none Bool.and_true Bool.true_and Bool.and_false Bool.false_and Bool.or_false Bool.false_or Bool.not_true Bool.not_false beq_true beq_false Bool.true_beq Bool.false_beq Loc.s.injEq Loc.b.injEq decide_true decide_false beq_self_eq_true Nat.zero_add Nat.add_zero List.getElem?_toArray List.toList_toArray List.size_toArray Value.oneCell' List.all_cons List.all_nil Value.int.injEq AV.v.injEq AV.sl.injEq AV.agg.injEq AV.ref.injEq AV.ept.injEq AV.tup.injEq Value.bool.injEq PV.v.injEq PV.sl.injEq List.isEmpty_nil List.isEmpty_cons forall_const not_true_eq_false not_false_eq_true true_implies false_implies Value.string.injEq List.length_map List.getElem?_map Int.toNat_natCast Int.natCast_nonneg List.length_append Value.cells implies_true TypeDesc.struct.injEq TypeDesc.slice.injEq TypeDesc.array.injEq List.getElem?_toArray Prod.mk.injEq and_assoc exists_false List.cons.injEq Operand.tmp.injEq ite_self AV.fnv.injEq AV.clo.injEq ne_eq eq_self Tryz.sz3 Tryz.zr3 Tryz.by3 Tryz.pl3 Tryz.is3 Tryz.underlying3 Tryz.sz4 Tryz.zr4 Tryz.by4 Tryz.pl4 Tryz.is4 Tryz.underlying4 Tryz.sz43 Tryz.zr43 Tryz.by43 Tryz.pl43 Tryz.is43 Tryz.underlying43 Tryz.sz35 Tryz.zr35 Tryz.by35 Tryz.pl35 Tryz.is35 Tryz.underlying35 Tryz.sz33 Tryz.zr33 Tryz.by33 Tryz.pl33 Tryz.is33 Tryz.underlying33 Tryz.sz28 Tryz.zr28 Tryz.by28 Tryz.pl28 Tryz.is28 Tryz.underlying28 Tryz.sz39 Tryz.zr39 Tryz.by39 Tryz.pl39 Tryz.is39 Tryz.underlying39 Tryz.sz57 Tryz.zr57 Tryz.by57 Tryz.pl57 Tryz.is57 Tryz.underlying57 Tryz.sz137 Tryz.zr137 Tryz.by137 Tryz.pl137 Tryz.is137 Tryz.underlying137 Tryz.sz66 Tryz.zr66 Tryz.by66 Tryz.pl66 Tryz.is66 Tryz.underlying66 Tryz.sz64 Tryz.zr64 Tryz.by64 Tryz.pl64 Tryz.is64 Tryz.underlying64 Tryz.sz60 Tryz.zr60 Tryz.by60 Tryz.pl60 Tryz.is60 Tryz.underlying60 Tryz.sz100 Tryz.zr100 Tryz.by100 Tryz.pl100 Tryz.is100 Tryz.underlying100 Tryz.sz103 Tryz.zr103 Tryz.by103 Tryz.pl103 Tryz.is103 Tryz.underlying103 Tryz.sz26 Tryz.zr26 Tryz.by26 Tryz.pl26 Tryz.is26 Tryz.underlying26 Tryz.sz120 Tryz.zr120 Tryz.by120 Tryz.pl120 Tryz.is120 Tryz.underlying120 Tryz.sz117 Tryz.zr117 Tryz.by117 Tryz.pl117 Tryz.is117 Tryz.underlying117 Tryz.sz30 Tryz.zr30 Tryz.by30 Tryz.pl30 Tryz.is30 Tryz.underlying30 Tryz.sz31 Tryz.zr31 Tryz.by31 Tryz.pl31 Tryz.is31 Tryz.underlying31 Tryz.sz40 Tryz.zr40 Tryz.by40 Tryz.pl40 Tryz.is40 Tryz.underlying40 Tryz.sz23 Tryz.zr23 Tryz.by23 Tryz.pl23 Tryz.is23 Tryz.underlying23 Tryz.sz24 Tryz.zr24 Tryz.by24 Tryz.pl24 Tryz.is24 Tryz.underlying24 Tryz.sz22 Tryz.zr22 Tryz.by22 Tryz.pl22 Tryz.is22 Tryz.underlying22 Tryz.sz141 Tryz.zr141 Tryz.by141 Tryz.pl141 Tryz.is141 Tryz.underlying141 Tryz.sz42 Tryz.zr42 Tryz.by42 Tryz.pl42 Tryz.is42 Tryz.underlying42 Tryz.sz29 Tryz.zr29 Tryz.by29 Tryz.pl29 Tryz.is29 Tryz.underlying29 Tryz.sz83 Tryz.zr83 Tryz.by83 Tryz.pl83 Tryz.is83 Tryz.underlying83 Tryz.it39 Tryz.eg39 Tryz.it137 Tryz.eg137 Tryz.it66 Tryz.eg66 Tryz.it28 Tryz.eg28 Tryz.it60 Tryz.eg60 all_arr loc_ss loc_sb loc_bs loc_bb arr_two arr_one rg1 rg2 rg3 rg4 rg5 rg6 rg7 rg8 ResultVar.tmp.injEq Bool.not_true Bool.not_false undef Rc.Rec.pv Nd.Fl.pv Rc.Dlv.pv Rc.Att.pv Mo.Lt.pv Fn.func.injEq Mo.Net.pv Mo.Lk.pv prow_pv irow_pv Br.pv
set_option maxHeartbeats 2000000 in
theorem idxB_ok (c : FuncId) (caps : List (List PV)) (p : Br → Bool) (l : List Br) (hl : l.length ≤ 1000000) (hc : ∀ y ∈ l, FnOK Tryz.prog c (.agg y.pv :: caps.map AV.ept) ⟨bv (p y), none⟩) : FnOK Tryz.prog 63 [.sl 5 (l.map Br.pv), .fnv c caps] ⟨iv (idxP p l 0), none⟩ := by
  refine fn_ok Tryz.func63 (by kernel_rfl) rfl (by rw [Tryz.ntmps63]; exact of_decide_eq_true rfl) (fun F hF => ?_)
  rw [Tryz.ntmps63] at hF
  rw [Tryz.results63]
  repeat (first
    | (with_reducible (first | refine sops_go ?_ | refine headW_end ?_ | refine sops_end ?_ | refine awp_if ?_ | refine awp_skip ?_ | refine awp_ret ?_ | refine awp_exit ?_); simp only [go_sem, simprocAttr, hF])
    | with_reducible (first | refine awp_seq_k fun _ _ => ?_ | refine awp_region [] ?_ | refine awp_block ?_)
    | go_step)
  refine awp_loop_by (ι := {k : Nat // k ≤ l.length ∧ idxP p l 0 = idxP p (l.drop k) (k : Int)}) (fun k σ => ⟨(8, iv (k.1 : Int)) :: keepS [0, 1, 4, 7] σ.slot, σ.box, [], σ.ext⟩) (fun k => l.length - k.1) ⟨0, by omega, rfl⟩ (sub_mk ?_) (fun R hR k => ?_)
  · simp only [go_sem, simprocAttr, hF]
    repeat' (first | rfl | refine ⟨?_, ?_⟩)
  obtain ⟨k, hk, hT⟩ := k
  dsimp only
  simp only [go_sem, simprocAttr, hF]
  by_cases hlt : k < l.length
  case neg =>
    have hd : decide ((k : Int) < (l.length : Int)) = false := decide_eq_false (by omega)
    repeat (first
      | (with_reducible (first | refine sops_go ?_ | refine headW_end ?_ | refine sops_end ?_ | refine awp_if ?_ | refine awp_skip ?_ | refine awp_ret ?_ | refine awp_exit ?_); simp only [go_sem, simprocAttr, hF, hd])
      | with_reducible (first | refine awp_seq_k fun _ _ => ?_ | refine awp_region [] ?_ | refine awp_block ?_)
      | go_step)
    rw [hT, List.drop_of_length_le (by omega)]
    rfl
  obtain ⟨y, hyk⟩ := get_of_lt hlt
  have hd : decide ((k : Int) < (l.length : Int)) = true := decide_eq_true (by omega)
  have hw : IntKind.i64.wrap ((k : Int) + 1) = ((k + 1 : Nat) : Int) := by rw [IntKind.wrap_i64]; omega
  have hT' : idxP p l 0 = if p y = true then (k : Int) else idxP p (l.drop (k + 1)) ((k + 1 : Nat) : Int) := by rw [hT, drop_of_get hyk, idxP]; rfl
  repeat (first
    | (with_reducible (first | refine sops_go ?_ | refine headW_end ?_ | refine sops_end ?_ | refine awp_if ?_ | refine awp_skip ?_ | refine awp_ret ?_ | refine awp_exit ?_); simp only [go_sem, simprocAttr, hF, hd, hyk])
    | with_reducible (first | refine awp_seq_k fun _ _ => ?_ | refine awp_region [] ?_ | refine awp_block ?_)
    | go_step)
  refine ⟨_, hc y (List.mem_of_getElem? hyk), ?_⟩
  simp only [go_sem, simprocAttr, hF]
  cases he : p y with
  | true =>
    try simp only [go_sem, simprocAttr, hF, he]
    repeat (first
      | (with_reducible (first | refine sops_go ?_ | refine headW_end ?_ | refine sops_end ?_ | refine awp_if ?_ | refine awp_skip ?_ | refine awp_ret ?_ | refine awp_exit ?_); simp only [go_sem, simprocAttr, hF, he])
      | with_reducible (first | refine awp_seq_k fun _ _ => ?_ | refine awp_region [] ?_ | refine awp_block ?_)
      | go_step)
    rw [hT', if_pos he]
  | false =>
    try simp only [go_sem, simprocAttr, hF, he]
    repeat (first
      | (with_reducible (first | refine sops_go ?_ | refine headW_end ?_ | refine sops_end ?_ | refine awp_if ?_ | refine awp_skip ?_ | refine awp_ret ?_ | refine awp_exit ?_); simp only [go_sem, simprocAttr, hF, he])
      | with_reducible (first | refine awp_seq_k fun _ _ => ?_ | refine awp_region [] ?_ | refine awp_block ?_)
      | go_step)
    refine ⟨⟨k + 1, by omega, by rw [hT', if_neg (by rw [he]; decide)]⟩, by dsimp only; omega, hR _ _ (sub_mk ?_)⟩
    simp only [go_sem, simprocAttr, hF, hw]

set_option maxHeartbeats 2000000 in
theorem contB_ok (c : FuncId) (caps : List (List PV)) (p : Br → Bool) (l : List Br) (hl : l.length ≤ 1000000) (hc : ∀ y ∈ l, FnOK Tryz.prog c (.agg y.pv :: caps.map AV.ept) ⟨bv (p y), none⟩) : FnOK Tryz.prog 29 [.sl 5 (l.map Br.pv), .fnv c caps] ⟨bv (l.any p), none⟩ := by
  have hx := idx_any p l
  refine fn_ok Tryz.func29 (by kernel_rfl) rfl (by rw [Tryz.ntmps29]; exact of_decide_eq_true rfl) (fun F hF => ?_)
  rw [Tryz.ntmps29] at hF
  rw [Tryz.results29]
  repeat (first
    | (with_reducible (first | refine sops_go ?_ | refine headW_end ?_ | refine sops_end ?_ | refine awp_if ?_ | refine awp_skip ?_ | refine awp_ret ?_ | refine awp_exit ?_); simp only [go_sem, simprocAttr, hF])
    | with_reducible (first | refine awp_seq_k fun _ _ => ?_ | refine awp_region [] ?_ | refine awp_block ?_)
    | go_step)
  refine ⟨_, idxB_ok c caps p l hl hc, ?_⟩
  simp only [go_sem, simprocAttr, hF]
  repeat (first
    | (with_reducible (first | refine sops_go ?_ | refine headW_end ?_ | refine sops_end ?_ | refine awp_if ?_ | refine awp_skip ?_ | refine awp_ret ?_ | refine awp_exit ?_); simp only [go_sem, simprocAttr, hF, hx])
    | with_reducible (first | refine awp_seq_k fun _ _ => ?_ | refine awp_region [] ?_ | refine awp_block ?_)
    | go_step)
  all_goals (try rfl)

set_option maxHeartbeats 2000000 in
theorem idxR_ok (c : FuncId) (caps : List (List PV)) (p : (List Int) → Bool) (l : List (List Int)) (hl : l.length ≤ 1000000) (hc : ∀ y ∈ l, FnOK Tryz.prog c (.sl 1 (y.map irow_pv) :: caps.map AV.ept) ⟨bv (p y), none⟩) : FnOK Tryz.prog 99 [.sl 1 (l.map prow_pv), .fnv c caps] ⟨iv (idxP p l 0), none⟩ := by
  refine fn_ok Tryz.func99 (by kernel_rfl) rfl (by rw [Tryz.ntmps99]; exact of_decide_eq_true rfl) (fun F hF => ?_)
  rw [Tryz.ntmps99] at hF
  rw [Tryz.results99]
  repeat (first
    | (with_reducible (first | refine sops_go ?_ | refine headW_end ?_ | refine sops_end ?_ | refine awp_if ?_ | refine awp_skip ?_ | refine awp_ret ?_ | refine awp_exit ?_); simp only [go_sem, simprocAttr, hF])
    | with_reducible (first | refine awp_seq_k fun _ _ => ?_ | refine awp_region [] ?_ | refine awp_block ?_)
    | go_step)
  refine awp_loop_by (ι := {k : Nat // k ≤ l.length ∧ idxP p l 0 = idxP p (l.drop k) (k : Int)}) (fun k σ => ⟨(8, iv (k.1 : Int)) :: keepS [0, 1, 4, 7] σ.slot, σ.box, [], σ.ext⟩) (fun k => l.length - k.1) ⟨0, by omega, rfl⟩ (sub_mk ?_) (fun R hR k => ?_)
  · simp only [go_sem, simprocAttr, hF]
    repeat' (first | rfl | refine ⟨?_, ?_⟩)
  obtain ⟨k, hk, hT⟩ := k
  dsimp only
  simp only [go_sem, simprocAttr, hF]
  by_cases hlt : k < l.length
  case neg =>
    have hd : decide ((k : Int) < (l.length : Int)) = false := decide_eq_false (by omega)
    repeat (first
      | (with_reducible (first | refine sops_go ?_ | refine headW_end ?_ | refine sops_end ?_ | refine awp_if ?_ | refine awp_skip ?_ | refine awp_ret ?_ | refine awp_exit ?_); simp only [go_sem, simprocAttr, hF, hd])
      | with_reducible (first | refine awp_seq_k fun _ _ => ?_ | refine awp_region [] ?_ | refine awp_block ?_)
      | go_step)
    rw [hT, List.drop_of_length_le (by omega)]
    rfl
  obtain ⟨y, hyk⟩ := get_of_lt hlt
  have hd : decide ((k : Int) < (l.length : Int)) = true := decide_eq_true (by omega)
  have hw : IntKind.i64.wrap ((k : Int) + 1) = ((k + 1 : Nat) : Int) := by rw [IntKind.wrap_i64]; omega
  have hT' : idxP p l 0 = if p y = true then (k : Int) else idxP p (l.drop (k + 1)) ((k + 1 : Nat) : Int) := by rw [hT, drop_of_get hyk, idxP]; rfl
  repeat (first
    | (with_reducible (first | refine sops_go ?_ | refine headW_end ?_ | refine sops_end ?_ | refine awp_if ?_ | refine awp_skip ?_ | refine awp_ret ?_ | refine awp_exit ?_); simp only [go_sem, simprocAttr, hF, hd, hyk])
    | with_reducible (first | refine awp_seq_k fun _ _ => ?_ | refine awp_region [] ?_ | refine awp_block ?_)
    | go_step)
  refine ⟨_, hc y (List.mem_of_getElem? hyk), ?_⟩
  simp only [go_sem, simprocAttr, hF]
  cases he : p y with
  | true =>
    try simp only [go_sem, simprocAttr, hF, he]
    repeat (first
      | (with_reducible (first | refine sops_go ?_ | refine headW_end ?_ | refine sops_end ?_ | refine awp_if ?_ | refine awp_skip ?_ | refine awp_ret ?_ | refine awp_exit ?_); simp only [go_sem, simprocAttr, hF, he])
      | with_reducible (first | refine awp_seq_k fun _ _ => ?_ | refine awp_region [] ?_ | refine awp_block ?_)
      | go_step)
    rw [hT', if_pos he]
  | false =>
    try simp only [go_sem, simprocAttr, hF, he]
    repeat (first
      | (with_reducible (first | refine sops_go ?_ | refine headW_end ?_ | refine sops_end ?_ | refine awp_if ?_ | refine awp_skip ?_ | refine awp_ret ?_ | refine awp_exit ?_); simp only [go_sem, simprocAttr, hF, he])
      | with_reducible (first | refine awp_seq_k fun _ _ => ?_ | refine awp_region [] ?_ | refine awp_block ?_)
      | go_step)
    refine ⟨⟨k + 1, by omega, by rw [hT', if_neg (by rw [he]; decide)]⟩, by dsimp only; omega, hR _ _ (sub_mk ?_)⟩
    simp only [go_sem, simprocAttr, hF, hw]

set_option maxHeartbeats 2000000 in
theorem contR_ok (c : FuncId) (caps : List (List PV)) (p : (List Int) → Bool) (l : List (List Int)) (hl : l.length ≤ 1000000) (hc : ∀ y ∈ l, FnOK Tryz.prog c (.sl 1 (y.map irow_pv) :: caps.map AV.ept) ⟨bv (p y), none⟩) : FnOK Tryz.prog 64 [.sl 1 (l.map prow_pv), .fnv c caps] ⟨bv (l.any p), none⟩ := by
  have hx := idx_any p l
  refine fn_ok Tryz.func64 (by kernel_rfl) rfl (by rw [Tryz.ntmps64]; exact of_decide_eq_true rfl) (fun F hF => ?_)
  rw [Tryz.ntmps64] at hF
  rw [Tryz.results64]
  repeat (first
    | (with_reducible (first | refine sops_go ?_ | refine headW_end ?_ | refine sops_end ?_ | refine awp_if ?_ | refine awp_skip ?_ | refine awp_ret ?_ | refine awp_exit ?_); simp only [go_sem, simprocAttr, hF])
    | with_reducible (first | refine awp_seq_k fun _ _ => ?_ | refine awp_region [] ?_ | refine awp_block ?_)
    | go_step)
  refine ⟨_, idxR_ok c caps p l hl hc, ?_⟩
  simp only [go_sem, simprocAttr, hF]
  repeat (first
    | (with_reducible (first | refine sops_go ?_ | refine headW_end ?_ | refine sops_end ?_ | refine awp_if ?_ | refine awp_skip ?_ | refine awp_ret ?_ | refine awp_exit ?_); simp only [go_sem, simprocAttr, hF, hx])
    | with_reducible (first | refine awp_seq_k fun _ _ => ?_ | refine awp_region [] ?_ | refine awp_block ?_)
    | go_step)
  all_goals (try rfl)

set_option maxHeartbeats 2000000 in
theorem idxT_ok (c : FuncId) (caps : List (List PV)) (p : Lt → Bool) (l : List Lt) (hl : l.length ≤ 1000000) (hc : ∀ y ∈ l, FnOK Tryz.prog c (.agg y.pv :: caps.map AV.ept) ⟨bv (p y), none⟩) : FnOK Tryz.prog 68 [.sl 3 (l.map Lt.pv), .fnv c caps] ⟨iv (idxP p l 0), none⟩ := by
  refine fn_ok Tryz.func68 (by kernel_rfl) rfl (by rw [Tryz.ntmps68]; exact of_decide_eq_true rfl) (fun F hF => ?_)
  rw [Tryz.ntmps68] at hF
  rw [Tryz.results68]
  repeat (first
    | (with_reducible (first | refine sops_go ?_ | refine headW_end ?_ | refine sops_end ?_ | refine awp_if ?_ | refine awp_skip ?_ | refine awp_ret ?_ | refine awp_exit ?_); simp only [go_sem, simprocAttr, hF])
    | with_reducible (first | refine awp_seq_k fun _ _ => ?_ | refine awp_region [] ?_ | refine awp_block ?_)
    | go_step)
  refine awp_loop_by (ι := {k : Nat // k ≤ l.length ∧ idxP p l 0 = idxP p (l.drop k) (k : Int)}) (fun k σ => ⟨(8, iv (k.1 : Int)) :: keepS [0, 1, 4, 7] σ.slot, σ.box, [], σ.ext⟩) (fun k => l.length - k.1) ⟨0, by omega, rfl⟩ (sub_mk ?_) (fun R hR k => ?_)
  · simp only [go_sem, simprocAttr, hF]
    repeat' (first | rfl | refine ⟨?_, ?_⟩)
  obtain ⟨k, hk, hT⟩ := k
  dsimp only
  simp only [go_sem, simprocAttr, hF]
  by_cases hlt : k < l.length
  case neg =>
    have hd : decide ((k : Int) < (l.length : Int)) = false := decide_eq_false (by omega)
    repeat (first
      | (with_reducible (first | refine sops_go ?_ | refine headW_end ?_ | refine sops_end ?_ | refine awp_if ?_ | refine awp_skip ?_ | refine awp_ret ?_ | refine awp_exit ?_); simp only [go_sem, simprocAttr, hF, hd])
      | with_reducible (first | refine awp_seq_k fun _ _ => ?_ | refine awp_region [] ?_ | refine awp_block ?_)
      | go_step)
    rw [hT, List.drop_of_length_le (by omega)]
    rfl
  obtain ⟨y, hyk⟩ := get_of_lt hlt
  have hd : decide ((k : Int) < (l.length : Int)) = true := decide_eq_true (by omega)
  have hw : IntKind.i64.wrap ((k : Int) + 1) = ((k + 1 : Nat) : Int) := by rw [IntKind.wrap_i64]; omega
  have hT' : idxP p l 0 = if p y = true then (k : Int) else idxP p (l.drop (k + 1)) ((k + 1 : Nat) : Int) := by rw [hT, drop_of_get hyk, idxP]; rfl
  repeat (first
    | (with_reducible (first | refine sops_go ?_ | refine headW_end ?_ | refine sops_end ?_ | refine awp_if ?_ | refine awp_skip ?_ | refine awp_ret ?_ | refine awp_exit ?_); simp only [go_sem, simprocAttr, hF, hd, hyk])
    | with_reducible (first | refine awp_seq_k fun _ _ => ?_ | refine awp_region [] ?_ | refine awp_block ?_)
    | go_step)
  refine ⟨_, hc y (List.mem_of_getElem? hyk), ?_⟩
  simp only [go_sem, simprocAttr, hF]
  cases he : p y with
  | true =>
    try simp only [go_sem, simprocAttr, hF, he]
    repeat (first
      | (with_reducible (first | refine sops_go ?_ | refine headW_end ?_ | refine sops_end ?_ | refine awp_if ?_ | refine awp_skip ?_ | refine awp_ret ?_ | refine awp_exit ?_); simp only [go_sem, simprocAttr, hF, he])
      | with_reducible (first | refine awp_seq_k fun _ _ => ?_ | refine awp_region [] ?_ | refine awp_block ?_)
      | go_step)
    rw [hT', if_pos he]
  | false =>
    try simp only [go_sem, simprocAttr, hF, he]
    repeat (first
      | (with_reducible (first | refine sops_go ?_ | refine headW_end ?_ | refine sops_end ?_ | refine awp_if ?_ | refine awp_skip ?_ | refine awp_ret ?_ | refine awp_exit ?_); simp only [go_sem, simprocAttr, hF, he])
      | with_reducible (first | refine awp_seq_k fun _ _ => ?_ | refine awp_region [] ?_ | refine awp_block ?_)
      | go_step)
    refine ⟨⟨k + 1, by omega, by rw [hT', if_neg (by rw [he]; decide)]⟩, by dsimp only; omega, hR _ _ (sub_mk ?_)⟩
    simp only [go_sem, simprocAttr, hF, hw]

set_option maxHeartbeats 2000000 in
theorem idxI_ok (c : FuncId) (caps : List (List PV)) (p : Int → Bool) (l : List Int) (hl : l.length ≤ 1000000) (hc : ∀ y ∈ l, FnOK Tryz.prog c (iv y :: caps.map AV.ept) ⟨bv (p y), none⟩) : FnOK Tryz.prog 168 [.sl 1 (l.map irow_pv), .fnv c caps] ⟨iv (idxP p l 0), none⟩ := by
  refine fn_ok Tryz.func168 (by kernel_rfl) rfl (by rw [Tryz.ntmps168]; exact of_decide_eq_true rfl) (fun F hF => ?_)
  rw [Tryz.ntmps168] at hF
  rw [Tryz.results168]
  repeat (first
    | (with_reducible (first | refine sops_go ?_ | refine headW_end ?_ | refine sops_end ?_ | refine awp_if ?_ | refine awp_skip ?_ | refine awp_ret ?_ | refine awp_exit ?_); simp only [go_sem, simprocAttr, hF])
    | with_reducible (first | refine awp_seq_k fun _ _ => ?_ | refine awp_region [] ?_ | refine awp_block ?_)
    | go_step)
  refine awp_loop_by (ι := {k : Nat // k ≤ l.length ∧ idxP p l 0 = idxP p (l.drop k) (k : Int)}) (fun k σ => ⟨(8, iv (k.1 : Int)) :: keepS [0, 1, 4, 7] σ.slot, σ.box, [], σ.ext⟩) (fun k => l.length - k.1) ⟨0, by omega, rfl⟩ (sub_mk ?_) (fun R hR k => ?_)
  · simp only [go_sem, simprocAttr, hF]
    repeat' (first | rfl | refine ⟨?_, ?_⟩)
  obtain ⟨k, hk, hT⟩ := k
  dsimp only
  simp only [go_sem, simprocAttr, hF]
  by_cases hlt : k < l.length
  case neg =>
    have hd : decide ((k : Int) < (l.length : Int)) = false := decide_eq_false (by omega)
    repeat (first
      | (with_reducible (first | refine sops_go ?_ | refine headW_end ?_ | refine sops_end ?_ | refine awp_if ?_ | refine awp_skip ?_ | refine awp_ret ?_ | refine awp_exit ?_); simp only [go_sem, simprocAttr, hF, hd])
      | with_reducible (first | refine awp_seq_k fun _ _ => ?_ | refine awp_region [] ?_ | refine awp_block ?_)
      | go_step)
    rw [hT, List.drop_of_length_le (by omega)]
    rfl
  obtain ⟨y, hyk⟩ := get_of_lt hlt
  have hd : decide ((k : Int) < (l.length : Int)) = true := decide_eq_true (by omega)
  have hw : IntKind.i64.wrap ((k : Int) + 1) = ((k + 1 : Nat) : Int) := by rw [IntKind.wrap_i64]; omega
  have hT' : idxP p l 0 = if p y = true then (k : Int) else idxP p (l.drop (k + 1)) ((k + 1 : Nat) : Int) := by rw [hT, drop_of_get hyk, idxP]; rfl
  repeat (first
    | (with_reducible (first | refine sops_go ?_ | refine headW_end ?_ | refine sops_end ?_ | refine awp_if ?_ | refine awp_skip ?_ | refine awp_ret ?_ | refine awp_exit ?_); simp only [go_sem, simprocAttr, hF, hd, hyk])
    | with_reducible (first | refine awp_seq_k fun _ _ => ?_ | refine awp_region [] ?_ | refine awp_block ?_)
    | go_step)
  refine ⟨_, hc y (List.mem_of_getElem? hyk), ?_⟩
  simp only [go_sem, simprocAttr, hF]
  cases he : p y with
  | true =>
    try simp only [go_sem, simprocAttr, hF, he]
    repeat (first
      | (with_reducible (first | refine sops_go ?_ | refine headW_end ?_ | refine sops_end ?_ | refine awp_if ?_ | refine awp_skip ?_ | refine awp_ret ?_ | refine awp_exit ?_); simp only [go_sem, simprocAttr, hF, he])
      | with_reducible (first | refine awp_seq_k fun _ _ => ?_ | refine awp_region [] ?_ | refine awp_block ?_)
      | go_step)
    rw [hT', if_pos he]
  | false =>
    try simp only [go_sem, simprocAttr, hF, he]
    repeat (first
      | (with_reducible (first | refine sops_go ?_ | refine headW_end ?_ | refine sops_end ?_ | refine awp_if ?_ | refine awp_skip ?_ | refine awp_ret ?_ | refine awp_exit ?_); simp only [go_sem, simprocAttr, hF, he])
      | with_reducible (first | refine awp_seq_k fun _ _ => ?_ | refine awp_region [] ?_ | refine awp_block ?_)
      | go_step)
    refine ⟨⟨k + 1, by omega, by rw [hT', if_neg (by rw [he]; decide)]⟩, by dsimp only; omega, hR _ _ (sub_mk ?_)⟩
    simp only [go_sem, simprocAttr, hF, hw]

set_option maxHeartbeats 2000000 in
theorem contI_ok (c : FuncId) (caps : List (List PV)) (p : Int → Bool) (l : List Int) (hl : l.length ≤ 1000000) (hc : ∀ y ∈ l, FnOK Tryz.prog c (iv y :: caps.map AV.ept) ⟨bv (p y), none⟩) : FnOK Tryz.prog 148 [.sl 1 (l.map irow_pv), .fnv c caps] ⟨bv (l.any p), none⟩ := by
  have hx := idx_any p l
  refine fn_ok Tryz.func148 (by kernel_rfl) rfl (by rw [Tryz.ntmps148]; exact of_decide_eq_true rfl) (fun F hF => ?_)
  rw [Tryz.ntmps148] at hF
  rw [Tryz.results148]
  repeat (first
    | (with_reducible (first | refine sops_go ?_ | refine headW_end ?_ | refine sops_end ?_ | refine awp_if ?_ | refine awp_skip ?_ | refine awp_ret ?_ | refine awp_exit ?_); simp only [go_sem, simprocAttr, hF])
    | with_reducible (first | refine awp_seq_k fun _ _ => ?_ | refine awp_region [] ?_ | refine awp_block ?_)
    | go_step)
  refine ⟨_, idxI_ok c caps p l hl hc, ?_⟩
  simp only [go_sem, simprocAttr, hF]
  repeat (first
    | (with_reducible (first | refine sops_go ?_ | refine headW_end ?_ | refine sops_end ?_ | refine awp_if ?_ | refine awp_skip ?_ | refine awp_ret ?_ | refine awp_exit ?_); simp only [go_sem, simprocAttr, hF, hx])
    | with_reducible (first | refine awp_seq_k fun _ _ => ?_ | refine awp_region [] ?_ | refine awp_block ?_)
    | go_step)
  all_goals (try rfl)

set_option maxHeartbeats 2000000 in
theorem idxN_ok (c : FuncId) (caps : List (List PV)) (p : Int → Bool) (l : List Int) (hl : l.length ≤ 1000000) (hc : ∀ y ∈ l, FnOK Tryz.prog c (iv y :: caps.map AV.ept) ⟨bv (p y), none⟩) : FnOK Tryz.prog 122 [.sl 1 (l.map irow_pv), .fnv c caps] ⟨iv (idxP p l 0), none⟩ := by
  refine fn_ok Tryz.func122 (by kernel_rfl) rfl (by rw [Tryz.ntmps122]; exact of_decide_eq_true rfl) (fun F hF => ?_)
  rw [Tryz.ntmps122] at hF
  rw [Tryz.results122]
  repeat (first
    | (with_reducible (first | refine sops_go ?_ | refine headW_end ?_ | refine sops_end ?_ | refine awp_if ?_ | refine awp_skip ?_ | refine awp_ret ?_ | refine awp_exit ?_); simp only [go_sem, simprocAttr, hF])
    | with_reducible (first | refine awp_seq_k fun _ _ => ?_ | refine awp_region [] ?_ | refine awp_block ?_)
    | go_step)
  refine awp_loop_by (ι := {k : Nat // k ≤ l.length ∧ idxP p l 0 = idxP p (l.drop k) (k : Int)}) (fun k σ => ⟨(8, iv (k.1 : Int)) :: keepS [0, 1, 4, 7] σ.slot, σ.box, [], σ.ext⟩) (fun k => l.length - k.1) ⟨0, by omega, rfl⟩ (sub_mk ?_) (fun R hR k => ?_)
  · simp only [go_sem, simprocAttr, hF]
    repeat' (first | rfl | refine ⟨?_, ?_⟩)
  obtain ⟨k, hk, hT⟩ := k
  dsimp only
  simp only [go_sem, simprocAttr, hF]
  by_cases hlt : k < l.length
  case neg =>
    have hd : decide ((k : Int) < (l.length : Int)) = false := decide_eq_false (by omega)
    repeat (first
      | (with_reducible (first | refine sops_go ?_ | refine headW_end ?_ | refine sops_end ?_ | refine awp_if ?_ | refine awp_skip ?_ | refine awp_ret ?_ | refine awp_exit ?_); simp only [go_sem, simprocAttr, hF, hd])
      | with_reducible (first | refine awp_seq_k fun _ _ => ?_ | refine awp_region [] ?_ | refine awp_block ?_)
      | go_step)
    rw [hT, List.drop_of_length_le (by omega)]
    rfl
  obtain ⟨y, hyk⟩ := get_of_lt hlt
  have hd : decide ((k : Int) < (l.length : Int)) = true := decide_eq_true (by omega)
  have hw : IntKind.i64.wrap ((k : Int) + 1) = ((k + 1 : Nat) : Int) := by rw [IntKind.wrap_i64]; omega
  have hT' : idxP p l 0 = if p y = true then (k : Int) else idxP p (l.drop (k + 1)) ((k + 1 : Nat) : Int) := by rw [hT, drop_of_get hyk, idxP]; rfl
  repeat (first
    | (with_reducible (first | refine sops_go ?_ | refine headW_end ?_ | refine sops_end ?_ | refine awp_if ?_ | refine awp_skip ?_ | refine awp_ret ?_ | refine awp_exit ?_); simp only [go_sem, simprocAttr, hF, hd, hyk])
    | with_reducible (first | refine awp_seq_k fun _ _ => ?_ | refine awp_region [] ?_ | refine awp_block ?_)
    | go_step)
  refine ⟨_, hc y (List.mem_of_getElem? hyk), ?_⟩
  simp only [go_sem, simprocAttr, hF]
  cases he : p y with
  | true =>
    try simp only [go_sem, simprocAttr, hF, he]
    repeat (first
      | (with_reducible (first | refine sops_go ?_ | refine headW_end ?_ | refine sops_end ?_ | refine awp_if ?_ | refine awp_skip ?_ | refine awp_ret ?_ | refine awp_exit ?_); simp only [go_sem, simprocAttr, hF, he])
      | with_reducible (first | refine awp_seq_k fun _ _ => ?_ | refine awp_region [] ?_ | refine awp_block ?_)
      | go_step)
    rw [hT', if_pos he]
  | false =>
    try simp only [go_sem, simprocAttr, hF, he]
    repeat (first
      | (with_reducible (first | refine sops_go ?_ | refine headW_end ?_ | refine sops_end ?_ | refine awp_if ?_ | refine awp_skip ?_ | refine awp_ret ?_ | refine awp_exit ?_); simp only [go_sem, simprocAttr, hF, he])
      | with_reducible (first | refine awp_seq_k fun _ _ => ?_ | refine awp_region [] ?_ | refine awp_block ?_)
      | go_step)
    refine ⟨⟨k + 1, by omega, by rw [hT', if_neg (by rw [he]; decide)]⟩, by dsimp only; omega, hR _ _ (sub_mk ?_)⟩
    simp only [go_sem, simprocAttr, hF, hw]

set_option maxHeartbeats 2000000 in
theorem contN_ok (c : FuncId) (caps : List (List PV)) (p : Int → Bool) (l : List Int) (hl : l.length ≤ 1000000) (hc : ∀ y ∈ l, FnOK Tryz.prog c (iv y :: caps.map AV.ept) ⟨bv (p y), none⟩) : FnOK Tryz.prog 86 [.sl 1 (l.map irow_pv), .fnv c caps] ⟨bv (l.any p), none⟩ := by
  have hx := idx_any p l
  refine fn_ok Tryz.func86 (by kernel_rfl) rfl (by rw [Tryz.ntmps86]; exact of_decide_eq_true rfl) (fun F hF => ?_)
  rw [Tryz.ntmps86] at hF
  rw [Tryz.results86]
  repeat (first
    | (with_reducible (first | refine sops_go ?_ | refine headW_end ?_ | refine sops_end ?_ | refine awp_if ?_ | refine awp_skip ?_ | refine awp_ret ?_ | refine awp_exit ?_); simp only [go_sem, simprocAttr, hF])
    | with_reducible (first | refine awp_seq_k fun _ _ => ?_ | refine awp_region [] ?_ | refine awp_block ?_)
    | go_step)
  refine ⟨_, idxN_ok c caps p l hl hc, ?_⟩
  simp only [go_sem, simprocAttr, hF]
  repeat (first
    | (with_reducible (first | refine sops_go ?_ | refine headW_end ?_ | refine sops_end ?_ | refine awp_if ?_ | refine awp_skip ?_ | refine awp_ret ?_ | refine awp_exit ?_); simp only [go_sem, simprocAttr, hF, hx])
    | with_reducible (first | refine awp_seq_k fun _ _ => ?_ | refine awp_region [] ?_ | refine awp_block ?_)
    | go_step)
  all_goals (try rfl)
/- explain.numbers, by abstract states. -/
attribute [local go_sem] Tryz.sz67 Tryz.zr67 Tryz.by67 Tryz.pl67 Tryz.is67 Tryz.underlying67 Tryz.sz20 Tryz.zr20 Tryz.by20 Tryz.pl20 Tryz.is20 Tryz.underlying20 Tryz.sz89 Tryz.zr89 Tryz.by89 Tryz.pl89 Tryz.is89 Tryz.underlying89 Tryz.sz132 Tryz.zr132 Tryz.by132 Tryz.pl132 Tryz.is132 Tryz.underlying132 Tryz.sz9 Tryz.zr9 Tryz.by9 Tryz.pl9 Tryz.is9 Tryz.underlying9
def wrongB (x : Int) : Bool := decide (x < 0) || decide (1073741824 < x)

set_option maxHeartbeats 2000000 in
theorem num1_ok (x : Int) : FnOK Tryz.prog 87 [iv x] ⟨bv (wrongB x), none⟩ := by
  refine fn_ok Tryz.func87 (by kernel_rfl) rfl (by rw [Tryz.ntmps87]; exact of_decide_eq_true rfl) (fun F hF => ?_)
  rw [Tryz.ntmps87] at hF
  rw [Tryz.results87]
  unfold wrongB
  cases h1 : decide (x < 0) <;> cases h2 : decide ((1073741824 : Int) < x)
  · repeat (first
      | (with_reducible (first | refine sops_go ?_ | refine headW_end ?_ | refine sops_end ?_ | refine awp_if ?_ | refine awp_skip ?_ | refine awp_ret ?_ | refine awp_exit ?_); simp only [go_sem, simprocAttr, hF, h1, h2])
      | with_reducible (first | refine awp_seq_k fun _ _ => ?_ | refine awp_region [] ?_ | refine awp_block ?_)
      | go_step)
    all_goals (try rfl)
  · repeat (first
      | (with_reducible (first | refine sops_go ?_ | refine headW_end ?_ | refine sops_end ?_ | refine awp_if ?_ | refine awp_skip ?_ | refine awp_ret ?_ | refine awp_exit ?_); simp only [go_sem, simprocAttr, hF, h1, h2])
      | with_reducible (first | refine awp_seq_k fun _ _ => ?_ | refine awp_region [] ?_ | refine awp_block ?_)
      | go_step)
    all_goals (try rfl)
  · repeat (first
      | (with_reducible (first | refine sops_go ?_ | refine headW_end ?_ | refine sops_end ?_ | refine awp_if ?_ | refine awp_skip ?_ | refine awp_ret ?_ | refine awp_exit ?_); simp only [go_sem, simprocAttr, hF, h1, h2])
      | with_reducible (first | refine awp_seq_k fun _ _ => ?_ | refine awp_region [] ?_ | refine awp_block ?_)
      | go_step)
    all_goals (try rfl)
  · repeat (first
      | (with_reducible (first | refine sops_go ?_ | refine headW_end ?_ | refine sops_end ?_ | refine awp_if ?_ | refine awp_skip ?_ | refine awp_ret ?_ | refine awp_exit ?_); simp only [go_sem, simprocAttr, hF, h1, h2])
      | with_reducible (first | refine awp_seq_k fun _ _ => ?_ | refine awp_region [] ?_ | refine awp_block ?_)
      | go_step)
    all_goals (try rfl)

set_option maxHeartbeats 2000000 in
theorem numbers_ok (l : List Int) (hl : l.length ≤ 1000000) : FnOK Tryz.prog 44 [.sl 1 (l.map irow_pv)] ⟨bv (!(l.any wrongB)), none⟩ := by
  refine fn_ok Tryz.func44 (by kernel_rfl) rfl (by rw [Tryz.ntmps44]; exact of_decide_eq_true rfl) (fun F hF => ?_)
  rw [Tryz.ntmps44] at hF
  rw [Tryz.results44]
  repeat (first
    | (with_reducible (first | refine sops_go ?_ | refine headW_end ?_ | refine sops_end ?_ | refine awp_if ?_ | refine awp_skip ?_ | refine awp_ret ?_ | refine awp_exit ?_); simp only [go_sem, simprocAttr, hF])
    | with_reducible (first | refine awp_seq_k fun _ _ => ?_ | refine awp_region [] ?_ | refine awp_block ?_)
    | go_step)
  refine ⟨_, contN_ok 87 [] wrongB l hl (fun y _ => num1_ok y), ?_⟩
  simp only [go_sem, simprocAttr, hF]
  repeat (first
    | (with_reducible (first | refine sops_go ?_ | refine headW_end ?_ | refine sops_end ?_ | refine awp_if ?_ | refine awp_skip ?_ | refine awp_ret ?_ | refine awp_exit ?_); simp only [go_sem, simprocAttr, hF])
    | with_reducible (first | refine awp_seq_k fun _ _ => ?_ | refine awp_region [] ?_ | refine awp_block ?_)
    | go_step)
  all_goals (try rfl)
end Go.Proofs.YticnppnejafhdaaGreatDoor
/- The text of an explanation: plain. -/
namespace Go.Proofs.YticnppnejafhdaaGreatDoor
open Go.RowKit
open Nd Rc Mo
open Av
set_option maxRecDepth 100000
set_option linter.unusedSimpArgs false

def m0 (x : Int) : Int := if x < 0 then 0 else x
def headN (x : Lt) : List Pt := [.s ⟨#[102, 108, 111, 119]⟩, .n x.fl, .s ⟨#[102, 114, 97, 109, 101]⟩, .n x.fr, .s ⟨#[110, 111, 116, 32, 100, 101, 108, 105, 118, 101, 114, 101, 100]⟩]
def headD (x : Lt) : List Pt := [.s ⟨#[102, 108, 111, 119]⟩, .n x.fl, .s ⟨#[102, 114, 97, 109, 101]⟩, .n x.fr, .s ⟨#[108, 97, 116, 101, 32, 98, 121, 32, 116, 104, 101, 32, 100, 101, 108, 105, 118, 101, 114, 121, 32, 105, 110, 32, 115, 108, 111, 116]⟩, .n x.sl]
def headL (x : Lt) : List Pt := if 0 ≤ x.sl then headD x else headN x
def causeP (c : Br) : List Pt := [.s ⟨#[108, 105, 110, 107]⟩, .n c.fm, .s ⟨#[116, 111]⟩, .n c.tt, .s ⟨#[108, 111, 115, 116, 32, 105, 110, 32, 115, 108, 111, 116, 115]⟩]
def causeL (c : Br) : List Pt := causeP c ++ c.sl.map Pt.n
def badC (c : Br) : Bool := [c.fl, c.fr, c.fm, c.tt].any wrongB || (c.sl.any wrongB || (decide ((c.sl.length : Int) < 1) || decide ((8 : Int) < (c.sl.length : Int))))
def outT (h : ByteArray) (l : List Br) : ByteArray := l.foldl (fun o c => o ++ lineT (causeL c)) h
/-- The text of an explanation. -/
def fmtX (x : Ex) : ByteArray × Int :=
  if ([x.lt.fl, x.lt.fr, m0 x.lt.sl].any wrongB || decide ((1024 : Int) < (x.ca.length : Int))) = true then (⟨#[]⟩, 1)
  else if x.ca.any badC = true then (⟨#[]⟩, 1) else (outT (lineT (headL x.lt)) x.ca, 0)
theorem wrongB_f {x : Int} (h : wrongB x = false) : 0 ≤ x ∧ x ≤ 1073741824 := by
  unfold wrongB at h
  rw [Bool.or_eq_false_iff, decide_eq_false_iff_not, decide_eq_false_iff_not] at h
  omega
theorem txtI_size {x : Int} (h : 0 ≤ x ∧ x ≤ 1073741824) : (txtI x).size ≤ 21 := by
  show (Lib.itoa x).toArray.size ≤ 21
  rw [List.size_toArray]
  exact Lib.itoa_length_le x (by omega) (by omega)
theorem lensT_cons (p : Pt) (l : List Pt) : lensT (p :: l) = p.txt.size + 1 + lensT l := rfl
theorem lensT_append (l m : List Pt) : lensT (l ++ m) = lensT l + lensT m := by
  induction l with
  | nil => simp [lensT]
  | cons p l ih => rw [List.cons_append, lensT_cons, lensT_cons, ih]; omega
theorem lensT_nums {l : List Int} (h : l.any wrongB = false) : lensT (l.map Pt.n) ≤ 22 * l.length := by
  induction l with
  | nil => exact Nat.zero_le _
  | cons x l ih =>
    rw [List.any_cons, Bool.or_eq_false_iff] at h
    have h1 := txtI_size (wrongB_f h.1)
    have h2 := ih h.2
    rw [List.map_cons, lensT_cons, List.length_cons]
    show (txtI x).size + 1 + _ ≤ _
    omega
theorem badC_f {c : Br} (h : badC c = false) : ([c.fl, c.fr, c.fm, c.tt].any wrongB = false ∧ c.sl.any wrongB = false ∧ 1 ≤ c.sl.length ∧ c.sl.length ≤ 8) ∧ (0 ≤ c.fm ∧ c.fm ≤ 1073741824) ∧ (0 ≤ c.tt ∧ c.tt ≤ 1073741824) := by
  unfold badC at h
  simp only [Bool.or_eq_false_iff, decide_eq_false_iff_not] at h
  obtain ⟨h1, h2, h3, h4⟩ := h
  refine ⟨⟨h1, h2, by omega, by omega⟩, ?_, ?_⟩
  · simp only [List.any_cons, Bool.or_eq_false_iff] at h1
    exact wrongB_f h1.2.2.1
  · simp only [List.any_cons, Bool.or_eq_false_iff] at h1
    exact wrongB_f h1.2.2.2.1
theorem causeP_len {c : Br} (h1 : 0 ≤ c.fm ∧ c.fm ≤ 1073741824) (h2 : 0 ≤ c.tt ∧ c.tt ≤ 1073741824) : lensT (causeP c) ≤ 100 := by
  have a := txtI_size h1
  have b := txtI_size h2
  show 4 + 1 + ((txtI c.fm).size + 1 + (2 + 1 + ((txtI c.tt).size + 1 + (13 + 1 + 0)))) ≤ 100
  omega
theorem causeL_len {c : Br} (h : badC c = false) : lensT (causeL c) ≤ 300 := by
  obtain ⟨⟨_, h1, _, h2⟩, h3, h4⟩ := badC_f h
  have a := causeP_len h3 h4
  have b := lensT_nums h1
  unfold causeL
  rw [lensT_append]
  omega
theorem headN_len {x : Lt} (h1 : 0 ≤ x.fl ∧ x.fl ≤ 1073741824) (h2 : 0 ≤ x.fr ∧ x.fr ≤ 1073741824) : lensT (headN x) ≤ 200 := by
  have a := txtI_size h1
  have b := txtI_size h2
  show 4 + 1 + ((txtI x.fl).size + 1 + (5 + 1 + ((txtI x.fr).size + 1 + (13 + 1 + 0)))) ≤ 200
  omega
theorem headD_len {x : Lt} (h1 : 0 ≤ x.fl ∧ x.fl ≤ 1073741824) (h2 : 0 ≤ x.fr ∧ x.fr ≤ 1073741824) (h3 : 0 ≤ x.sl ∧ x.sl ≤ 1073741824) : lensT (headD x) ≤ 200 := by
  have a := txtI_size h1
  have b := txtI_size h2
  have c := txtI_size h3
  show 4 + 1 + ((txtI x.fl).size + 1 + (5 + 1 + ((txtI x.fr).size + 1 + (28 + 1 + ((txtI x.sl).size + 1 + 0))))) ≤ 200
  omega
theorem outT_size {h : ByteArray} : ∀ {l : List Br}, l.any badC = false → (outT h l).size ≤ h.size + 400 * l.length := by
  intro l
  induction l generalizing h with
  | nil => intro _; exact Nat.le_refl _
  | cons c l ih =>
    intro hb
    rw [List.any_cons, Bool.or_eq_false_iff] at hb
    have h1 := ih (h := h ++ lineT (causeL c)) hb.2
    have h2 := lineT_size (causeL c)
    have h3 := causeL_len hb.1
    rw [ByteArray.size_append] at h1
    show (outT (h ++ lineT (causeL c)) l).size ≤ _
    rw [List.length_cons]
    omega
theorem outT_snoc (h : ByteArray) (l : List Br) (c : Br) : outT h (l ++ [c]) = outT h l ++ lineT (causeL c) := by
  unfold outT
  rw [List.foldl_append]
  rfl
end Go.Proofs.YticnppnejafhdaaGreatDoor
