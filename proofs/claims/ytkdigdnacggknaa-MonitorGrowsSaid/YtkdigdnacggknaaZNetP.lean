import Derived.Laws.EntriesVeiled
import Derived.Test.YtkdigdnacggknaaZNodP
import Derived.Test.YtkdigdnacggknaaZNod1
import Derived.Test.YtkdigdnacggknaaZRoom
import Derived.Test.YtkdigdnacggknaaZChk
/- Plain: networks, and what Check says of them. No program's numbers. -/
namespace Go.Proofs.Ytkdigdnacggknaa
namespace Mo
open Nd
structure Lk where
  (fr tt ls : Int)
structure Net where
  (nodes noise thr : Int)
  (pow : List (List Int))
  (lk : List Lk)
  (mg : List Int)
def outP (p : Int) : Bool := decide (p < 0) || decide (68719476736 < p)
def powE (nodes : Int) (pow : List (List Int)) : Int :=
  if ((pow.length : Nat) : Int) ≠ nodes ∨ pow.any (fun r => !(((r.length : Nat) : Int) == nodes)) = true then 1 else if pow.any (fun r => r.any outP) = true then 2 else 0
def lkB (nodes : Int) (l : Lk) : Bool := inB l.fr 0 (nodes - 1) && (inB l.tt 0 (nodes - 1) && (!(l.fr == l.tt) && inB l.ls 0 7))
def prevBadL (p : Option Lk) (l : Lk) : Bool := match p with
  | none => false
  | some q => decide (l.fr < q.fr) || (q.fr == l.fr && decide (l.tt ≤ q.tt))
def powAt (pow : List (List Int)) (a b : Int) : Int := (pow.getD a.toNat []).getD b.toNat 0
def lkE (nodes : Int) (pow : List (List Int)) (p : Option Lk) (l : Lk) (m : Int) : Int :=
  if lkB nodes l = false then 2 else if prevBadL p l = true then 5 else if m < 0 ∨ powAt pow l.fr l.tt < m then 2 else 0
def lkGo (nodes : Int) (pow : List (List Int)) : Option Lk → List Lk → List Int → Int
  | _, [], _ => 0
  | p, l :: ls, ms => if lkE nodes pow p l (ms.headD 0) = 0 then lkGo nodes pow (some l) ls ms.tail else lkE nodes pow p l (ms.headD 0)
/-- The first fault of a network. -/
def chkN (n : Net) : Int :=
  if n.nodes < 2 ∨ 32 < n.nodes then 2
  else if powE n.nodes n.pow ≠ 0 then powE n.nodes n.pow
  else if inB n.noise 0 68719476736 = false ∨ inB n.thr 1000 100000 = false then 2
  else if 128 < n.lk.length then 8
  else if n.mg.length ≠ n.lk.length then 11
  else lkGo n.nodes n.pow none n.lk n.mg
end Mo
end Go.Proofs.Ytkdigdnacggknaa
/- Walks: the powers of a network. -/
namespace Go.Proofs.Ytkdigdnacggknaa
open Go.RowKit
open Nd Rc Mo

/-- A row of powers, with its place. -/
structure PRow where
  (l : List Int) (A : Option Addr) (c : Nat)
def PRow.row (p : PRow) : List Value := [.slice p.A p.l.length p.c]
def Mo.Lk.row (l : Lk) : List Value := [.int .i64 l.fr, .int .i64 l.tt, .int .i64 l.ls]
theorem Lk.row_len (l : Lk) : l.row.length = 3 := rfl
def LiesP (w : World) (B : Nat) (P : Option Addr) (pw : List PRow) : Prop := Lies w B 1 P (pw.map PRow.row) ∧ ∀ p ∈ pw, LiesI w B p.A p.l ∧ p.l.length ≤ 1000000
theorem LiesP.later {w w' : World} {P : Option Addr} {pw : List PRow} (h : LiesP w w.heap.size P pw) (hb : Below w.heap.size w w') : LiesP w' w'.heap.size P pw := ⟨(h.1.below hb).more hb.size, fun p hp => ⟨((h.2 p hp).1.below hb).more hb.size, (h.2 p hp).2⟩⟩
theorem idx_any {α : Type} (p : α → Bool) (l : List α) : decide (0 ≤ idxP p l 0) = l.any p := by
  rcases idxP_spec p l 0 with ⟨h1, h2⟩ | ⟨i, a, h1, h2, h3, h4⟩
  · rw [h1, show decide ((0 : Int) ≤ -1) = false from rfl]
    symm
    rw [Bool.eq_false_iff]
    intro h
    obtain ⟨x, hx, hpx⟩ := List.any_eq_true.1 h
    have := List.all_eq_true.1 h2 x hx
    rw [hpx] at this
    cases this
  · rw [h3, show decide ((0 : Int) ≤ 0 + (i : Int)) = true from decide_eq_true (by omega)]
    symm
    exact List.any_eq_true.2 ⟨a, List.mem_of_getElem? h1, h2⟩

set_option maxRecDepth 100000 in
set_option maxHeartbeats 1000000 in
theorem indexI_any (p : Int → Bool) (g : FuncId) (cb : Array Value) (l : List Int) (A : Option Addr) (c : Nat) (w : World) (eg : ∀ args w, (callFunc g args).run Try.prog w = .ok (.enter g args) w)
    (hA : Lies w w.heap.size 1 A (l.map irow)) (hl : l.length ≤ 1000000) (hp : ∀ W, Below w.heap.size w W → ∀ a, a ∈ l → Calls Try.prog g (#[.int .i64 a] ++ cb) W fun e w' => e = .returned (.bool (p a)) ∧ Below W.heap.size W w') :
    Calls Try.prog 114 #[.slice A l.length c, .func (.func g) #[] cb] w fun e w' => e = .returned (.int .i64 (idxP p l 0)) ∧ Below w.heap.size w w' := by
  obtain ⟨n, hn⟩ : ∃ n, n = l.length := ⟨_, rfl⟩
  rw [← hn] at hl ⊢
  have HN := Lib.hid hn
  obtain ⟨T, hT⟩ : ∃ T, T = idxP p l 0 := ⟨_, rfl⟩
  rw [← hT]
  have HT := Lib.hid hT
  have HP := Lib.hid hp
  clear hn hT hp
  go_enter Try.func114, Try.ntmps114
  go_wp2_with fail
  go_loopw [8] (fun i wr => ∃ (k : Nat), k ≤ n ∧ i = .int .i64 k ∧ Below w.heap.size w wr ∧ Hid (T = idxP p (l.drop k) k)) (fun i _ => n - (intOf i).toNat)
  case atStart => exact ⟨0, Nat.zero_le _, rfl, Below.refl _ _, Lib.hid (by rw [HT.out]; rfl)⟩
  case round =>
    obtain ⟨k, hk, rfl, hb, hst⟩ := hrel
    by_cases hlt : k < n
    · obtain ⟨a, ha⟩ := get_of_lt (l := l) (k := k) (by rw [← HN.out]; exact hlt)
      obtain ⟨b, off, rfl, hbB, hcs⟩ := (Lies.below hA hb).at_ ha
      have c0 := hcs k a ha 0 _ rfl
      simp only [Nat.add_zero, Nat.mul_one] at c0
      have hst' : Hid (T = if p a = true then (k : Int) else idxP p (l.drop (k + 1)) ((k : Int) + 1)) := Lib.hid (by rw [hst.out, drop_of_get ha]; rfl)
      have hcall := HP.out wr hb a (List.mem_of_getElem? ha)
      clear hcs ha hst
      cases hq : p a with
      | true =>
        rw [hq] at hcall
        have hf := Lib.hid (show T = (k : Int) by rw [hst'.out, if_pos hq])
        clear hst' hq
        go_wp2_with (go_at_fn g; refine hcall.mono ?_; rintro e w2 ⟨rfl, hb2⟩)
        go_ret
        exact ⟨ret_int (by rw [hf.out]), hb.trans (hb2.mono hb.size)⟩
      | false =>
        rw [hq] at hcall
        have hf := Lib.hid (show T = idxP p (l.drop (k + 1)) ((k + 1 : Nat) : Int) by rw [hst'.out, if_neg (by rw [hq]; decide)]; rfl)
        clear hst' hq
        go_wp2_with (go_at_fn g; refine hcall.mono ?_; rintro e w2 ⟨rfl, hb2⟩)
        go_roundw
        case rel => exact ⟨k + 1, by omega, by go_num, hb.trans (hb2.mono hb.size), hf⟩
        case measure => simp [intOf]; omega
    · have hf : Hid (T = -1) := Lib.hid (by rw [hst.out, List.drop_of_length_le (by rw [← HN.out]; omega)]; rfl)
      go_wp2_with fail
      go_ret
      exact ⟨ret_int (by rw [hf.out]), hb⟩

theorem contI_any (p : Int → Bool) (g : FuncId) (cb : Array Value) (l : List Int) (A : Option Addr) (c : Nat) (w : World) (eg : ∀ args w, (callFunc g args).run Try.prog w = .ok (.enter g args) w)
    (hA : Lies w w.heap.size 1 A (l.map irow)) (hl : l.length ≤ 1000000) (hp : ∀ W, Below w.heap.size w W → ∀ a, a ∈ l → Calls Try.prog g (#[.int .i64 a] ++ cb) W fun e w' => e = .returned (.bool (p a)) ∧ Below W.heap.size W w') :
    Calls Try.prog 96 #[.slice A l.length c, .func (.func g) #[] cb] w fun e w' => e = .returned (.bool (l.any p)) ∧ Below w.heap.size w w' := by
  have con := indexI_any p g cb l A c w eg hA hl hp
  have HT : Hid (decide (0 ≤ idxP p l 0) = l.any p) := Lib.hid (idx_any p l)
  generalize idxP p l 0 = T at *
  generalize l.any p = R at *
  generalize l.length = n at *
  have Con := Lib.hid con
  clear con hA hp
  go_enter Try.func96, Try.ntmps96
  go_wp2_with (go_at_call 114; (with_reducible refine Con.out.mono ?_); rintro e w' ⟨rfl, hb⟩)
  go_ret
  exact ⟨ret_bool HT.out, hb⟩

set_option maxRecDepth 100000 in
set_option maxHeartbeats 1000000 in
theorem indexP_any (p : PRow → Bool) (g : FuncId) (cb : Array Value) (l : List PRow) (A : Option Addr) (c : Nat) (w : World) (eg : ∀ args w, (callFunc g args).run Try.prog w = .ok (.enter g args) w)
    (hA : Lies w w.heap.size 1 A (l.map PRow.row)) (hl : l.length ≤ 1000000) (hp : ∀ W, Below w.heap.size w W → ∀ a, a ∈ l → Calls Try.prog g (#[.slice a.A a.l.length a.c] ++ cb) W fun e w' => e = .returned (.bool (p a)) ∧ Below W.heap.size W w') :
    Calls Try.prog 113 #[.slice A l.length c, .func (.func g) #[] cb] w fun e w' => e = .returned (.int .i64 (idxP p l 0)) ∧ Below w.heap.size w w' := by
  obtain ⟨n, hn⟩ : ∃ n, n = l.length := ⟨_, rfl⟩
  rw [← hn] at hl ⊢
  have HN := Lib.hid hn
  obtain ⟨T, hT⟩ : ∃ T, T = idxP p l 0 := ⟨_, rfl⟩
  rw [← hT]
  have HT := Lib.hid hT
  have HP := Lib.hid hp
  clear hn hT hp
  go_enter Try.func113, Try.ntmps113
  go_wp2_with fail
  go_loopw [8] (fun i wr => ∃ (k : Nat), k ≤ n ∧ i = .int .i64 k ∧ Below w.heap.size w wr ∧ Hid (T = idxP p (l.drop k) k)) (fun i _ => n - (intOf i).toNat)
  case atStart => exact ⟨0, Nat.zero_le _, rfl, Below.refl _ _, Lib.hid (by rw [HT.out]; rfl)⟩
  case round =>
    obtain ⟨k, hk, rfl, hb, hst⟩ := hrel
    by_cases hlt : k < n
    · obtain ⟨a, ha⟩ := get_of_lt (l := l) (k := k) (by rw [← HN.out]; exact hlt)
      obtain ⟨b, off, rfl, hbB, hcs⟩ := (Lies.below hA hb).at_ ha
      have c0 := hcs k a ha 0 _ rfl
      simp only [Nat.add_zero, Nat.mul_one] at c0
      have hst' : Hid (T = if p a = true then (k : Int) else idxP p (l.drop (k + 1)) ((k : Int) + 1)) := Lib.hid (by rw [hst.out, drop_of_get ha]; rfl)
      have hcall := HP.out wr hb a (List.mem_of_getElem? ha)
      clear hcs ha hst
      cases hq : p a with
      | true =>
        rw [hq] at hcall
        have hf := Lib.hid (show T = (k : Int) by rw [hst'.out, if_pos hq])
        clear hst' hq
        go_wp2_with (go_at_fn g; refine hcall.mono ?_; rintro e w2 ⟨rfl, hb2⟩)
        go_ret
        exact ⟨ret_int (by rw [hf.out]), hb.trans (hb2.mono hb.size)⟩
      | false =>
        rw [hq] at hcall
        have hf := Lib.hid (show T = idxP p (l.drop (k + 1)) ((k + 1 : Nat) : Int) by rw [hst'.out, if_neg (by rw [hq]; decide)]; rfl)
        clear hst' hq
        go_wp2_with (go_at_fn g; refine hcall.mono ?_; rintro e w2 ⟨rfl, hb2⟩)
        go_roundw
        case rel => exact ⟨k + 1, by omega, by go_num, hb.trans (hb2.mono hb.size), hf⟩
        case measure => simp [intOf]; omega
    · have hf : Hid (T = -1) := Lib.hid (by rw [hst.out, List.drop_of_length_le (by rw [← HN.out]; omega)]; rfl)
      go_wp2_with fail
      go_ret
      exact ⟨ret_int (by rw [hf.out]), hb⟩

theorem contP_any (p : PRow → Bool) (g : FuncId) (cb : Array Value) (l : List PRow) (A : Option Addr) (c : Nat) (w : World) (eg : ∀ args w, (callFunc g args).run Try.prog w = .ok (.enter g args) w)
    (hA : Lies w w.heap.size 1 A (l.map PRow.row)) (hl : l.length ≤ 1000000) (hp : ∀ W, Below w.heap.size w W → ∀ a, a ∈ l → Calls Try.prog g (#[.slice a.A a.l.length a.c] ++ cb) W fun e w' => e = .returned (.bool (p a)) ∧ Below W.heap.size W w') :
    Calls Try.prog 92 #[.slice A l.length c, .func (.func g) #[] cb] w fun e w' => e = .returned (.bool (l.any p)) ∧ Below w.heap.size w w' := by
  have con := indexP_any p g cb l A c w eg hA hl hp
  have HT : Hid (decide (0 ≤ idxP p l 0) = l.any p) := Lib.hid (idx_any p l)
  generalize idxP p l 0 = T at *
  generalize l.any p = R at *
  generalize l.length = n at *
  have Con := Lib.hid con
  clear con hA hp
  go_enter Try.func92, Try.ntmps92
  go_wp2_with (go_at_call 113; (with_reducible refine Con.out.mono ?_); rintro e w' ⟨rfl, hb⟩)
  go_ret
  exact ⟨ret_bool HT.out, hb⟩

theorem cpow1_any (p : PRow) (nodes : Int) (g : Nat) (w : World) (hc : w.cell? ⟨g, 0, none⟩ = some (.int .i64 nodes)) :
    Calls Try.prog 93 #[.slice p.A p.l.length p.c, .pointer (some ⟨g, 0, none⟩)] w fun e w' => e = .returned (.bool (!(((p.l.length : Nat) : Int) == nodes))) ∧ Below w.heap.size w w' := by
  go_enter Try.func93, Try.ntmps93
  go_wp2_with fail
  go_ret
  exact ⟨rfl, Below.refl _ _⟩
theorem cpow2_any (x : Int) (w : World) :
    Calls Try.prog 94 #[.int .i64 x] w fun e w' => e = .returned (.bool (outP x)) ∧ Below w.heap.size w w' := by
  unfold outP
  go_enter Try.func94, Try.ntmps94
  go_wp2
  all_goals
    go_ret
    exact ⟨ret_bool (by first | (simp [*]; done) | (simp [*]; omega)), Below.refl _ _⟩
theorem cpow3_any (p : PRow) (g : Nat) (w : World) (hc : w.cell? ⟨g, 0, none⟩ = some (.func (.func 94) #[] #[])) (hp : LiesI w w.heap.size p.A p.l) (hl : p.l.length ≤ 1000000) :
    Calls Try.prog 95 #[.slice p.A p.l.length p.c, .pointer (some ⟨g, 0, none⟩)] w fun e w' => e = .returned (.bool (p.l.any outP)) ∧ Below w.heap.size w w' := by
  have con := contI_any outP 94 #[] p.l p.A p.c w (enters_of Try.func94 (by kernel_rfl) rfl) hp hl (fun W hW a _ => cpow2_any a W)
  generalize p.l.any outP = R at *
  generalize p.l.length = n at *
  have Con := Lib.hid con
  clear con hp hl
  go_enter Try.func95, Try.ntmps95
  go_wp2_with (go_at_call 96; (with_reducible refine Con.out.mono ?_); rintro e w' ⟨rfl, hb⟩)
  go_ret
  exact ⟨rfl, hb⟩

set_option maxHeartbeats 2000000 in
theorem cpow_any (nodes noise thr : Int) (pw : List PRow) (lk : List Lk) (mg : List Int) (P L G : Option Addr) (cp cl cg : Nat) (w : World) (hP : LiesP w w.heap.size P pw) (hp : pw.length ≤ 1000000) :
    Calls Try.prog 72 #[.agg #[.int .i64 nodes, .slice P pw.length cp, .int .i64 noise, .int .i64 thr, .slice L lk.length cl, .slice G mg.length cg]] w fun e w' => e = .returned (.int .i64 (powE nodes (pw.map PRow.l))) ∧ Below w.heap.size w w' := by
  obtain ⟨np, hnp⟩ : ∃ n, n = pw.length := ⟨_, rfl⟩
  obtain ⟨T, hT⟩ : ∃ T, T = powE nodes (pw.map PRow.l) := ⟨_, rfl⟩
  unfold powE at hT
  rw [List.any_map, List.any_map, List.length_map, ← hnp] at hT
  obtain ⟨N, hN⟩ : ∃ N, N = w.heap.size := ⟨_, rfl⟩
  generalize lk.length = nl at *
  generalize mg.length = nm at *
  rw [← hnp]
  obtain ⟨W1, hW1⟩ : ∃ W1, W1 = w.alloc (.cells #[.int .i64 nodes, .slice P np cp, .int .i64 noise, .int .i64 thr, .slice L nl cl, .slice G nm cg] 44) := ⟨_, rfl⟩
  have hb1 : Below N w W1 := by rw [hW1, hN]; exact (Below.refl _ _).alloc (Nat.le_refl _) _
  have bN : Blk W1 N 44 [.int .i64 nodes, .slice P np cp, .int .i64 noise, .int .i64 thr, .slice L nl cl, .slice G nm cg] := by rw [hW1]; exact Blk.new2 _ [.int .i64 nodes, .slice P np cp, .int .i64 noise, .int .i64 thr, .slice L nl cl, .slice G nm cg] hN
  have HW := Lib.hid (fun W (h' : Below W1.heap.size W1 W) => (show Below w.heap.size w W ∧ Row W N [.int .i64 nodes, .slice P np cp, .int .i64 noise, .int .i64 thr, .slice L nl cl, .slice G nm cg] from ⟨by rw [← hN]; exact hb1.trans (h'.mono (by have := bN.lt; omega)), (bN.below h' bN.lt).row⟩))
  have HP := Lib.hid (fun W (h' : Below W1.heap.size W1 W) => LiesP.later hP (HW.out W h').1)
  have C1 := Lib.hid (fun W (h' : Below W1.heap.size W1 W) => contP_any (fun p => !(((p.l.length : Nat) : Int) == nodes)) 93 #[.pointer (some ⟨N, 0, none⟩)] pw P cp W (enters_of Try.func93 (by kernel_rfl) rfl) (HP.out W h').1 hp (fun W2 h2 a _ => cpow1_any a nodes N W2 ((HW.out W2 (h'.trans (h2.mono h'.size))).2 0)))
  have C3 := Lib.hid (fun g W (h' : Below W1.heap.size W1 W) (hg : g < W.heap.size) (hc : W.cell? ⟨g, 0, none⟩ = some (.func (.func 94) #[] #[])) => contP_any (fun p => p.l.any outP) 95 #[.pointer (some ⟨g, 0, none⟩)] pw P cp W (enters_of Try.func95 (by kernel_rfl) rfl) (HP.out W h').1 hp (fun W2 h2 a ha => cpow3_any a g W2 ((h2.cell (p := ⟨g, 0, none⟩) hg).trans hc) ((HP.out W2 (h'.trans (h2.mono h'.size))).2 a ha).1 ((HP.out W2 (h'.trans (h2.mono h'.size))).2 a ha).2))
  have HT : Hid (T = if ((np : Nat) : Int) ≠ nodes ∨ (pw.any fun p => !(((p.l.length : Nat) : Int) == nodes)) = true then 1 else if (pw.any fun p => p.l.any outP) = true then 2 else 0) := Lib.hid hT
  rw [← hnp] at C1 C3
  rw [show powE nodes (pw.map PRow.l) = T from by rw [hT]; unfold powE; rw [List.any_map, List.any_map, List.length_map, ← hnp]]
  generalize (pw.any fun p => !(((p.l.length : Nat) : Int) == nodes)) = R1 at *
  generalize (pw.any fun p => p.l.any outP) = R3 at *
  have HW1 := Lib.hid hW1
  have HN := Lib.hid hN
  have hNl := bN.lt
  have r1 : Row (w.alloc (.cells #[.int .i64 nodes, .slice P np cp, .int .i64 noise, .int .i64 thr, .slice L nl cl, .slice G nm cg] 44)) N [.int .i64 nodes, .slice P np cp, .int .i64 noise, .int .i64 thr, .slice L nl cl, .slice G nm cg] := by rw [← hW1]; exact bN.row
  rw [HN.out] at r1
  unfold Row at r1
  clear hT hnp hb1 bN hP hN hW1 HP hp
  go_enter Try.func72, Try.ntmps72
  clear r1
  by_cases h1 : ((np : Nat) : Int) = nodes
  case neg =>
    have hf : Hid (T = 1) := Lib.hid (by rw [HT.out, if_pos (.inl h1)])
    have h1' : (((np : Nat) : Int) != nodes) = true := by simpa using h1
    clear h1
    go_wp2_with fail
    go_ret
    exact ⟨ret_int (by rw [hf.out]), by rw [← HW1.out]; exact (HW.out _ (Below.refl _ _)).1⟩
  have h1' : (((np : Nat) : Int) != nodes) = false := by simpa using h1
  have HT2 : Hid (T = if R1 = true then 1 else if R3 = true then 2 else 0) := Lib.hid (by rw [HT.out]; simp [h1])
  have C1' := Lib.hid (C1.out _ (Below.refl _ _))
  clear h1 HT C1
  rw [HN.out] at C1'
  rw [HW1.out] at C1'
  go_wp2_with fail
  refine C1'.out.mono ?_
  rintro e w2 ⟨rfl, hb2⟩
  rw [← HW1.out] at hb2
  cases R1 with
  | true =>
    have hf : Hid (T = 1) := Lib.hid (by rw [HT2.out, if_pos rfl])
    go_wp2_with fail
    go_ret
    exact ⟨ret_int (by rw [hf.out]), (HW.out _ hb2).1⟩
  | false =>
    have HT3 : Hid (T = if R3 = true then 2 else 0) := Lib.hid (by rw [HT2.out]; rfl)
    have r2 := (HW.out _ hb2).2
    rw [HN.out] at r2
    unfold Row at r2
    clear HT2 C1'
    go_upto_region 4 with fail
    obtain ⟨g, hg⟩ : ∃ g, g = w2.heap.size := ⟨_, rfl⟩
    generalize hWa : World.alloc _ _ = Wa
    have ba : Blk Wa g 128 [.func (.func 94) #[] #[]] := by rw [← hWa]; exact Blk.new2 128 [.func (.func 94) #[] #[]] hg
    have hba : Below W1.heap.size W1 Wa := by rw [← hWa]; exact hb2.alloc hb2.size _
    have Con := Lib.hid (C3.out g Wa hba ba.lt (ba.row 0))
    have r3 := (HW.out _ hba).2
    rw [HN.out] at r3
    unfold Row at r3
    rw [← hg]
    clear hWa hg r2 C3 ba
    go_wp2_with fail
    refine Con.out.mono ?_
    rintro e w3 ⟨rfl, hb3⟩
    have hB3 : Below W1.heap.size W1 w3 := hba.trans (hb3.mono hba.size)
    cases R3 with
    | true =>
      have hf : Hid (T = 2) := Lib.hid (by rw [HT3.out]; rfl)
      go_wp2_with fail
      go_ret
      exact ⟨ret_int (by rw [hf.out]), (HW.out _ hB3).1⟩
    | false =>
      have hf : Hid (T = 0) := Lib.hid (by rw [HT3.out]; rfl)
      go_wp2_with fail
      go_ret
      exact ⟨ret_int (by rw [hf.out]), (HW.out _ hB3).1⟩
end Go.Proofs.Ytkdigdnacggknaa
/- Walks: package network: compare, the check of a link. -/
namespace Go.Proofs.Ytkdigdnacggknaa
open Go.RowKit
open Nd Rc Mo

theorem prevL_eq (q l : Lk) : decide (0 ≤ orI [Rc.cmpI q.fr l.fr, Rc.cmpI q.tt l.tt]) = prevBadL (some q) l := by
  unfold orI orI orI Rc.cmpI prevBadL
  by_cases h1 : q.fr < l.fr
  · have h2 : ¬ l.fr < q.fr := by omega
    have h3 : ¬ q.fr = l.fr := by omega
    simp [h1, h2, h3]
  · by_cases h2 : l.fr < q.fr
    · simp [h1, h2]
    · have h3 : q.fr = l.fr := by omega
      by_cases h4 : q.tt < l.tt
      · have h5 : ¬ l.tt ≤ q.tt := by omega
        simp [h3, h4, h5]
      · have h5 : l.tt ≤ q.tt := by omega
        by_cases h6 : l.tt < q.tt <;> simp [h3, h4, h5, h6]

set_option maxRecDepth 100000 in
set_option maxHeartbeats 1000000 in
theorem ncompare_any (x y : Lk) (w : World) : Calls Try.prog 98 #[.agg #[.int .i64 x.fr, .int .i64 x.tt, .int .i64 x.ls], .agg #[.int .i64 y.fr, .int .i64 y.tt, .int .i64 y.ls]] w
    fun e w' => e = .returned (.int .i64 (orI [Rc.cmpI x.fr y.fr, Rc.cmpI x.tt y.tt])) ∧ Below w.heap.size w w' := by
  obtain ⟨f, t, l⟩ := x
  obtain ⟨f', t', l'⟩ := y
  dsimp only
  obtain ⟨W1, hW1⟩ : ∃ W1, W1 = (w.alloc (.cells #[.int .i64 f, .int .i64 t, .int .i64 l] 73)).alloc (.cells #[.int .i64 f', .int .i64 t', .int .i64 l'] 73) := ⟨_, rfl⟩
  have hb1 : Below w.heap.size w W1 := by rw [hW1]; exact ((Below.refl _ _).alloc (Nat.le_refl _) _).alloc (by simp) _
  have b1 : Blk W1 w.heap.size 73 [.int .i64 f, .int .i64 t, .int .i64 l] := by rw [hW1]; exact Blk.alloc (Blk.new2 _ [.int .i64 f, .int .i64 t, .int .i64 l] rfl) _
  have b2 : Blk W1 (w.heap.size + 1) 73 [.int .i64 f', .int .i64 t', .int .i64 l'] := by rw [hW1]; exact Blk.new2 _ [.int .i64 f', .int .i64 t', .int .i64 l'] (by simp)
  have HW1 := Lib.hid hW1
  clear hW1
  go_enter Try.func98, Try.ntmps98
  go_upto_region 1 with fail
  rw [← HW1.out]
  have x1 := b1.row.ext (B := W1.heap.size) b1.lt
  have x2 := b2.row.ext (B := W1.heap.size) b2.lt
  refine wp_region_ext_tail W1.heap.size 10 (by kernel_rfl) (by kernel_rfl) ?_
  simp only [List.take_succ_cons, List.take_zero, List.drop_succ_cons, List.drop_zero]
  repeat (go_big_quiet_step ((go_at_call 56; exact Calls.ext_same (cmp_any _ _ _))))
  refine wpQuiet_nil ?_
  rintro _ ⟨x, rfl⟩
  have hb' := hb1.trans (x.below.mono hb1.size)
  obtain ⟨W, hW⟩ := x
  go_wp2_with (go_at_call 55; refine (or_any [cmpI f f', cmpI t t'] _ 0 2 _ (by simp) ?_).mono ?_)
  · exact fun k x hx => ints_get hx
  go_ret
  exact ⟨rfl, hb'.alloc (hb'.size) _⟩

theorem clink1_any (a nodes : Int) (g : Nat) (w : World) (hc : w.cell? ⟨g, 0, none⟩ = some (.int .i64 nodes)) :
    Calls Try.prog 97 #[.int .i64 a, .pointer (some ⟨g, 0, none⟩)] w fun e w' => e = .returned (.bool (Nd.inB a 0 (nodes - 1))) ∧ Below w.heap.size w w' := by
  have hi : Nd.inB a 0 (nodes - 1) = (decide (0 ≤ a) && decide (a < nodes)) := by
    unfold Nd.inB
    congr 1
    exact decide_eq_decide.2 (by omega)
  rw [hi]
  go_enter Try.func97, Try.ntmps97
  go_wp2
  all_goals
    go_ret
    exact ⟨ret_bool (by first | (simp [*]; done) | (simp [*]; omega)), Below.refl _ _⟩
end Go.Proofs.Ytkdigdnacggknaa
