import Derived.Laws.EntriesVeiled
import Derived.Deep.CutBlock
import Derived.Maps.OwnOps
import Derived.Maps.Views
import Derived.Maps.Range
import Derived.Maps.RangeRun
import Derived.WideMake
import Derived.Test.YticnppnejafhdaaGreatDoorZ4
set_option linter.unusedVariables false
set_option linter.unusedSimpArgs false
/- Walks: the powers of a network. -/
namespace Go.Proofs.YticnppnejafhdaaGreatDoor
open Go.RowKit
open Nd Rc Mo

/-- A row of powers, with its place. -/
structure PRow where
  (l : List Int) (A : Option Addr) (c : Nat)
def PRow.row (p : PRow) : List Value := [.slice p.A p.l.length p.c]
def Mo.Lk.row (l : Lk) : List Value := [.int .i64 l.fr, .int .i64 l.tt, .int .i64 l.ls]
def LiesP (w : World) (B : Nat) (P : Option Addr) (pw : List PRow) : Prop := Lies w B 1 P (pw.map PRow.row) ∧ ∀ p ∈ pw, LiesI w B p.A p.l ∧ p.l.length ≤ 1000000
theorem LiesP.later {w w' : World} {P : Option Addr} {pw : List PRow} (h : LiesP w w.heap.size P pw) (hb : Below w.heap.size w w') : LiesP w' w'.heap.size P pw := ⟨(h.1.below hb).more hb.size, fun p hp => ⟨((h.2 p hp).1.below hb).more hb.size, (h.2 p hp).2⟩⟩
theorem idx_any {α : Type} (p : α → Bool) (l : List α) : decide (0 ≤ idxP p l 0) = l.any p := by
  rcases idxP_spec p l 0 with ⟨h1, h2⟩ | ⟨i, a, h1, h2, h3, h4⟩
  · rw [h1, show decide ((0 : Int) ≤ -1) = false from rfl]
    symm
    rw [Bool.eq_false_iff]
    intro h
    obtain ⟨x, hx, hpx⟩ := List.any_eq_true.1 h
    have := List.all_eq_true.1 h2 x hx
    rw [hpx] at this
    cases this
  · rw [h3, show decide ((0 : Int) ≤ 0 + (i : Int)) = true from decide_eq_true (by omega)]
    symm
    exact List.any_eq_true.2 ⟨a, List.mem_of_getElem? h1, h2⟩

set_option maxRecDepth 100000 in
set_option maxHeartbeats 1000000 in
theorem indexI_any (p : Int → Bool) (g : FuncId) (cb : Array Value) (l : List Int) (A : Option Addr) (c : Nat) (w : World) (eg : ∀ args w, (callFunc g args).run Tryz.prog w = .ok (.enter g args) w)
    (hA : Lies w w.heap.size 1 A (l.map irow)) (hl : l.length ≤ 1000000) (hp : ∀ W, Below w.heap.size w W → ∀ a, a ∈ l → Calls Tryz.prog g (#[.int .i64 a] ++ cb) W fun e w' => e = .returned (.bool (p a)) ∧ Below W.heap.size W w') :
    Calls Tryz.prog 122 #[.slice A l.length c, .func (.func g) #[] cb] w fun e w' => e = .returned (.int .i64 (idxP p l 0)) ∧ Below w.heap.size w w' := by
  obtain ⟨n, hn⟩ : ∃ n, n = l.length := ⟨_, rfl⟩
  rw [← hn] at hl ⊢
  have HN := Lib.hid hn
  obtain ⟨T, hT⟩ : ∃ T, T = idxP p l 0 := ⟨_, rfl⟩
  rw [← hT]
  have HT := Lib.hid hT
  have HP := Lib.hid hp
  clear hn hT hp
  go_enter Tryz.func122, Tryz.ntmps122
  go_wp2_with fail
  go_loopw [8] (fun i wr => ∃ (k : Nat), k ≤ n ∧ i = .int .i64 k ∧ Below w.heap.size w wr ∧ Hid (T = idxP p (l.drop k) k)) (fun i _ => n - (intOf i).toNat)
  case atStart => exact ⟨0, Nat.zero_le _, rfl, Below.refl _ _, Lib.hid (by rw [HT.out]; rfl)⟩
  case round =>
    obtain ⟨k, hk, rfl, hb, hst⟩ := hrel
    by_cases hlt : k < n
    · obtain ⟨a, ha⟩ := get_of_lt (l := l) (k := k) (by rw [← HN.out]; exact hlt)
      obtain ⟨b, off, rfl, hbB, hcs⟩ := (Lies.below hA hb).at_ ha
      have c0 := hcs k a ha 0 _ rfl
      simp only [Nat.add_zero, Nat.mul_one] at c0
      have hst' : Hid (T = if p a = true then (k : Int) else idxP p (l.drop (k + 1)) ((k : Int) + 1)) := Lib.hid (by rw [hst.out, drop_of_get ha]; rfl)
      have hcall := HP.out wr hb a (List.mem_of_getElem? ha)
      clear hcs ha hst
      cases hq : p a with
      | true =>
        rw [hq] at hcall
        have hf := Lib.hid (show T = (k : Int) by rw [hst'.out, if_pos hq])
        clear hst' hq
        go_wp2_with (go_at_fn g; refine hcall.mono ?_; rintro e w2 ⟨rfl, hb2⟩)
        go_ret
        exact ⟨ret_int (by rw [hf.out]), hb.trans (hb2.mono hb.size)⟩
      | false =>
        rw [hq] at hcall
        have hf := Lib.hid (show T = idxP p (l.drop (k + 1)) ((k + 1 : Nat) : Int) by rw [hst'.out, if_neg (by rw [hq]; decide)]; rfl)
        clear hst' hq
        go_wp2_with (go_at_fn g; refine hcall.mono ?_; rintro e w2 ⟨rfl, hb2⟩)
        go_roundw
        case rel => exact ⟨k + 1, by omega, by go_num, hb.trans (hb2.mono hb.size), hf⟩
        case measure => simp [intOf]; omega
    · have hf : Hid (T = -1) := Lib.hid (by rw [hst.out, List.drop_of_length_le (by rw [← HN.out]; omega)]; rfl)
      go_wp2_with fail
      go_ret
      exact ⟨ret_int (by rw [hf.out]), hb⟩

theorem contI_any (p : Int → Bool) (g : FuncId) (cb : Array Value) (l : List Int) (A : Option Addr) (c : Nat) (w : World) (eg : ∀ args w, (callFunc g args).run Tryz.prog w = .ok (.enter g args) w)
    (hA : Lies w w.heap.size 1 A (l.map irow)) (hl : l.length ≤ 1000000) (hp : ∀ W, Below w.heap.size w W → ∀ a, a ∈ l → Calls Tryz.prog g (#[.int .i64 a] ++ cb) W fun e w' => e = .returned (.bool (p a)) ∧ Below W.heap.size W w') :
    Calls Tryz.prog 86 #[.slice A l.length c, .func (.func g) #[] cb] w fun e w' => e = .returned (.bool (l.any p)) ∧ Below w.heap.size w w' := by
  have con := indexI_any p g cb l A c w eg hA hl hp
  have HT : Hid (decide (0 ≤ idxP p l 0) = l.any p) := Lib.hid (idx_any p l)
  generalize idxP p l 0 = T at *
  generalize l.any p = R at *
  generalize l.length = n at *
  have Con := Lib.hid con
  clear con hA hp
  go_enter Tryz.func86, Tryz.ntmps86
  go_wp2_with (go_at_call 122; (with_reducible refine Con.out.mono ?_); rintro e w' ⟨rfl, hb⟩)
  go_ret
  exact ⟨ret_bool HT.out, hb⟩

set_option maxRecDepth 100000 in
set_option maxHeartbeats 1000000 in
theorem indexP_any (p : PRow → Bool) (g : FuncId) (cb : Array Value) (l : List PRow) (A : Option Addr) (c : Nat) (w : World) (eg : ∀ args w, (callFunc g args).run Tryz.prog w = .ok (.enter g args) w)
    (hA : Lies w w.heap.size 1 A (l.map PRow.row)) (hl : l.length ≤ 1000000) (hp : ∀ W, Below w.heap.size w W → ∀ a, a ∈ l → Calls Tryz.prog g (#[.slice a.A a.l.length a.c] ++ cb) W fun e w' => e = .returned (.bool (p a)) ∧ Below W.heap.size W w') :
    Calls Tryz.prog 162 #[.slice A l.length c, .func (.func g) #[] cb] w fun e w' => e = .returned (.int .i64 (idxP p l 0)) ∧ Below w.heap.size w w' := by
  obtain ⟨n, hn⟩ : ∃ n, n = l.length := ⟨_, rfl⟩
  rw [← hn] at hl ⊢
  have HN := Lib.hid hn
  obtain ⟨T, hT⟩ : ∃ T, T = idxP p l 0 := ⟨_, rfl⟩
  rw [← hT]
  have HT := Lib.hid hT
  have HP := Lib.hid hp
  clear hn hT hp
  go_enter Tryz.func162, Tryz.ntmps162
  go_wp2_with fail
  go_loopw [8] (fun i wr => ∃ (k : Nat), k ≤ n ∧ i = .int .i64 k ∧ Below w.heap.size w wr ∧ Hid (T = idxP p (l.drop k) k)) (fun i _ => n - (intOf i).toNat)
  case atStart => exact ⟨0, Nat.zero_le _, rfl, Below.refl _ _, Lib.hid (by rw [HT.out]; rfl)⟩
  case round =>
    obtain ⟨k, hk, rfl, hb, hst⟩ := hrel
    by_cases hlt : k < n
    · obtain ⟨a, ha⟩ := get_of_lt (l := l) (k := k) (by rw [← HN.out]; exact hlt)
      obtain ⟨b, off, rfl, hbB, hcs⟩ := (Lies.below hA hb).at_ ha
      have c0 := hcs k a ha 0 _ rfl
      simp only [Nat.add_zero, Nat.mul_one] at c0
      have hst' : Hid (T = if p a = true then (k : Int) else idxP p (l.drop (k + 1)) ((k : Int) + 1)) := Lib.hid (by rw [hst.out, drop_of_get ha]; rfl)
      have hcall := HP.out wr hb a (List.mem_of_getElem? ha)
      clear hcs ha hst
      cases hq : p a with
      | true =>
        rw [hq] at hcall
        have hf := Lib.hid (show T = (k : Int) by rw [hst'.out, if_pos hq])
        clear hst' hq
        go_wp2_with (go_at_fn g; refine hcall.mono ?_; rintro e w2 ⟨rfl, hb2⟩)
        go_ret
        exact ⟨ret_int (by rw [hf.out]), hb.trans (hb2.mono hb.size)⟩
      | false =>
        rw [hq] at hcall
        have hf := Lib.hid (show T = idxP p (l.drop (k + 1)) ((k + 1 : Nat) : Int) by rw [hst'.out, if_neg (by rw [hq]; decide)]; rfl)
        clear hst' hq
        go_wp2_with (go_at_fn g; refine hcall.mono ?_; rintro e w2 ⟨rfl, hb2⟩)
        go_roundw
        case rel => exact ⟨k + 1, by omega, by go_num, hb.trans (hb2.mono hb.size), hf⟩
        case measure => simp [intOf]; omega
    · have hf : Hid (T = -1) := Lib.hid (by rw [hst.out, List.drop_of_length_le (by rw [← HN.out]; omega)]; rfl)
      go_wp2_with fail
      go_ret
      exact ⟨ret_int (by rw [hf.out]), hb⟩

theorem contP_any (p : PRow → Bool) (g : FuncId) (cb : Array Value) (l : List PRow) (A : Option Addr) (c : Nat) (w : World) (eg : ∀ args w, (callFunc g args).run Tryz.prog w = .ok (.enter g args) w)
    (hA : Lies w w.heap.size 1 A (l.map PRow.row)) (hl : l.length ≤ 1000000) (hp : ∀ W, Below w.heap.size w W → ∀ a, a ∈ l → Calls Tryz.prog g (#[.slice a.A a.l.length a.c] ++ cb) W fun e w' => e = .returned (.bool (p a)) ∧ Below W.heap.size W w') :
    Calls Tryz.prog 131 #[.slice A l.length c, .func (.func g) #[] cb] w fun e w' => e = .returned (.bool (l.any p)) ∧ Below w.heap.size w w' := by
  have con := indexP_any p g cb l A c w eg hA hl hp
  have HT : Hid (decide (0 ≤ idxP p l 0) = l.any p) := Lib.hid (idx_any p l)
  generalize idxP p l 0 = T at *
  generalize l.any p = R at *
  generalize l.length = n at *
  have Con := Lib.hid con
  clear con hA hp
  go_enter Tryz.func131, Tryz.ntmps131
  go_wp2_with (go_at_call 162; (with_reducible refine Con.out.mono ?_); rintro e w' ⟨rfl, hb⟩)
  go_ret
  exact ⟨ret_bool HT.out, hb⟩

theorem cpow1_any (p : PRow) (nodes : Int) (g : Nat) (w : World) (hc : w.cell? ⟨g, 0, none⟩ = some (.int .i64 nodes)) :
    Calls Tryz.prog 132 #[.slice p.A p.l.length p.c, .pointer (some ⟨g, 0, none⟩)] w fun e w' => e = .returned (.bool (!(((p.l.length : Nat) : Int) == nodes))) ∧ Below w.heap.size w w' := by
  go_enter Tryz.func132, Tryz.ntmps132
  go_wp2_with fail
  go_ret
  exact ⟨rfl, Below.refl _ _⟩
theorem cpow2_any (x : Int) (w : World) :
    Calls Tryz.prog 133 #[.int .i64 x] w fun e w' => e = .returned (.bool (outP x)) ∧ Below w.heap.size w w' := by
  unfold outP
  go_enter Tryz.func133, Tryz.ntmps133
  go_wp2
  all_goals
    go_ret
    exact ⟨ret_bool (by first | (simp [*]; done) | (simp [*]; omega)), Below.refl _ _⟩
theorem cpow3_any (p : PRow) (g : Nat) (w : World) (hc : w.cell? ⟨g, 0, none⟩ = some (.func (.func 133) #[] #[])) (hp : LiesI w w.heap.size p.A p.l) (hl : p.l.length ≤ 1000000) :
    Calls Tryz.prog 134 #[.slice p.A p.l.length p.c, .pointer (some ⟨g, 0, none⟩)] w fun e w' => e = .returned (.bool (p.l.any outP)) ∧ Below w.heap.size w w' := by
  have con := contI_any outP 133 #[] p.l p.A p.c w (enters_of Tryz.func133 (by kernel_rfl) rfl) hp hl (fun W hW a _ => cpow2_any a W)
  generalize p.l.any outP = R at *
  generalize p.l.length = n at *
  have Con := Lib.hid con
  clear con hp hl
  go_enter Tryz.func134, Tryz.ntmps134
  go_wp2_with (go_at_call 86; (with_reducible refine Con.out.mono ?_); rintro e w' ⟨rfl, hb⟩)
  go_ret
  exact ⟨rfl, hb⟩

set_option maxHeartbeats 2000000 in
theorem cpow_any (nodes noise thr : Int) (pw : List PRow) (lk : List Lk) (mg : List Int) (P L G : Option Addr) (cp cl cg : Nat) (w : World) (hP : LiesP w w.heap.size P pw) (hp : pw.length ≤ 1000000) :
    Calls Tryz.prog 91 #[.agg #[.int .i64 nodes, .slice P pw.length cp, .int .i64 noise, .int .i64 thr, .slice L lk.length cl, .slice G mg.length cg]] w fun e w' => e = .returned (.int .i64 (powE nodes (pw.map PRow.l))) ∧ Below w.heap.size w w' := by
  obtain ⟨np, hnp⟩ : ∃ n, n = pw.length := ⟨_, rfl⟩
  obtain ⟨T, hT⟩ : ∃ T, T = powE nodes (pw.map PRow.l) := ⟨_, rfl⟩
  unfold powE at hT
  rw [List.any_map, List.any_map, List.length_map, ← hnp] at hT
  obtain ⟨N, hN⟩ : ∃ N, N = w.heap.size := ⟨_, rfl⟩
  generalize lk.length = nl at *
  generalize mg.length = nm at *
  rw [← hnp]
  obtain ⟨W1, hW1⟩ : ∃ W1, W1 = w.alloc (.cells #[.int .i64 nodes, .slice P np cp, .int .i64 noise, .int .i64 thr, .slice L nl cl, .slice G nm cg] 26) := ⟨_, rfl⟩
  have hb1 : Below N w W1 := by rw [hW1, hN]; exact (Below.refl _ _).alloc (Nat.le_refl _) _
  have bN : Blk W1 N 26 [.int .i64 nodes, .slice P np cp, .int .i64 noise, .int .i64 thr, .slice L nl cl, .slice G nm cg] := by rw [hW1]; exact Blk.new2 _ [.int .i64 nodes, .slice P np cp, .int .i64 noise, .int .i64 thr, .slice L nl cl, .slice G nm cg] hN
  have HW := Lib.hid (fun W (h' : Below W1.heap.size W1 W) => (show Below w.heap.size w W ∧ Row W N [.int .i64 nodes, .slice P np cp, .int .i64 noise, .int .i64 thr, .slice L nl cl, .slice G nm cg] from ⟨by rw [← hN]; exact hb1.trans (h'.mono (by have := bN.lt; omega)), (bN.below h' bN.lt).row⟩))
  have HP := Lib.hid (fun W (h' : Below W1.heap.size W1 W) => LiesP.later hP (HW.out W h').1)
  have C1 := Lib.hid (fun W (h' : Below W1.heap.size W1 W) => contP_any (fun p => !(((p.l.length : Nat) : Int) == nodes)) 132 #[.pointer (some ⟨N, 0, none⟩)] pw P cp W (enters_of Tryz.func132 (by kernel_rfl) rfl) (HP.out W h').1 hp (fun W2 h2 a _ => cpow1_any a nodes N W2 ((HW.out W2 (h'.trans (h2.mono h'.size))).2 0)))
  have C3 := Lib.hid (fun g W (h' : Below W1.heap.size W1 W) (hg : g < W.heap.size) (hc : W.cell? ⟨g, 0, none⟩ = some (.func (.func 133) #[] #[])) => contP_any (fun p => p.l.any outP) 134 #[.pointer (some ⟨g, 0, none⟩)] pw P cp W (enters_of Tryz.func134 (by kernel_rfl) rfl) (HP.out W h').1 hp (fun W2 h2 a ha => cpow3_any a g W2 ((h2.cell (p := ⟨g, 0, none⟩) hg).trans hc) ((HP.out W2 (h'.trans (h2.mono h'.size))).2 a ha).1 ((HP.out W2 (h'.trans (h2.mono h'.size))).2 a ha).2))
  have HT : Hid (T = if ((np : Nat) : Int) ≠ nodes ∨ (pw.any fun p => !(((p.l.length : Nat) : Int) == nodes)) = true then 1 else if (pw.any fun p => p.l.any outP) = true then 2 else 0) := Lib.hid hT
  rw [← hnp] at C1 C3
  rw [show powE nodes (pw.map PRow.l) = T from by rw [hT]; unfold powE; rw [List.any_map, List.any_map, List.length_map, ← hnp]]
  generalize (pw.any fun p => !(((p.l.length : Nat) : Int) == nodes)) = R1 at *
  generalize (pw.any fun p => p.l.any outP) = R3 at *
  have HW1 := Lib.hid hW1
  have HN := Lib.hid hN
  have hNl := bN.lt
  have r1 : Row (w.alloc (.cells #[.int .i64 nodes, .slice P np cp, .int .i64 noise, .int .i64 thr, .slice L nl cl, .slice G nm cg] 26)) N [.int .i64 nodes, .slice P np cp, .int .i64 noise, .int .i64 thr, .slice L nl cl, .slice G nm cg] := by rw [← hW1]; exact bN.row
  rw [HN.out] at r1
  unfold Row at r1
  clear hT hnp hb1 bN hP hN hW1 HP hp
  go_enter Tryz.func91, Tryz.ntmps91
  clear r1
  by_cases h1 : ((np : Nat) : Int) = nodes
  case neg =>
    have hf : Hid (T = 1) := Lib.hid (by rw [HT.out, if_pos (.inl h1)])
    have h1' : (((np : Nat) : Int) != nodes) = true := by simpa using h1
    clear h1
    go_wp2_with fail
    go_ret
    exact ⟨ret_int (by rw [hf.out]), by rw [← HW1.out]; exact (HW.out _ (Below.refl _ _)).1⟩
  have h1' : (((np : Nat) : Int) != nodes) = false := by simpa using h1
  have HT2 : Hid (T = if R1 = true then 1 else if R3 = true then 2 else 0) := Lib.hid (by rw [HT.out]; simp [h1])
  have C1' := Lib.hid (C1.out _ (Below.refl _ _))
  clear h1 HT C1
  rw [HN.out] at C1'
  rw [HW1.out] at C1'
  go_wp2_with fail
  refine C1'.out.mono ?_
  rintro e w2 ⟨rfl, hb2⟩
  rw [← HW1.out] at hb2
  cases R1 with
  | true =>
    have hf : Hid (T = 1) := Lib.hid (by rw [HT2.out, if_pos rfl])
    go_wp2_with fail
    go_ret
    exact ⟨ret_int (by rw [hf.out]), (HW.out _ hb2).1⟩
  | false =>
    have HT3 : Hid (T = if R3 = true then 2 else 0) := Lib.hid (by rw [HT2.out]; rfl)
    have r2 := (HW.out _ hb2).2
    rw [HN.out] at r2
    unfold Row at r2
    clear HT2 C1'
    go_upto_region 4 with fail
    obtain ⟨g, hg⟩ : ∃ g, g = w2.heap.size := ⟨_, rfl⟩
    generalize hWa : World.alloc _ _ = Wa
    have ba : Blk Wa g 90 [.func (.func 133) #[] #[]] := by rw [← hWa]; exact Blk.new2 90 [.func (.func 133) #[] #[]] hg
    have hba : Below W1.heap.size W1 Wa := by rw [← hWa]; exact hb2.alloc hb2.size _
    have Con := Lib.hid (C3.out g Wa hba ba.lt (ba.row 0))
    have r3 := (HW.out _ hba).2
    rw [HN.out] at r3
    unfold Row at r3
    rw [← hg]
    clear hWa hg r2 C3 ba
    go_wp2_with fail
    refine Con.out.mono ?_
    rintro e w3 ⟨rfl, hb3⟩
    have hB3 : Below W1.heap.size W1 w3 := hba.trans (hb3.mono hba.size)
    cases R3 with
    | true =>
      have hf : Hid (T = 2) := Lib.hid (by rw [HT3.out]; rfl)
      go_wp2_with fail
      go_ret
      exact ⟨ret_int (by rw [hf.out]), (HW.out _ hB3).1⟩
    | false =>
      have hf : Hid (T = 0) := Lib.hid (by rw [HT3.out]; rfl)
      go_wp2_with fail
      go_ret
      exact ⟨ret_int (by rw [hf.out]), (HW.out _ hB3).1⟩
end Go.Proofs.YticnppnejafhdaaGreatDoor
/- Walks: package network: compare, the check of a link. -/
namespace Go.Proofs.YticnppnejafhdaaGreatDoor
open Go.RowKit
open Nd Rc Mo

theorem prevL_eq (q l : Lk) : decide (0 ≤ orI [Rc.cmpI q.fr l.fr, Rc.cmpI q.tt l.tt]) = prevBadL (some q) l := by
  unfold orI orI orI Rc.cmpI prevBadL
  by_cases h1 : q.fr < l.fr
  · have h2 : ¬ l.fr < q.fr := by omega
    have h3 : ¬ q.fr = l.fr := by omega
    simp [h1, h2, h3]
  · by_cases h2 : l.fr < q.fr
    · simp [h1, h2]
    · have h3 : q.fr = l.fr := by omega
      by_cases h4 : q.tt < l.tt
      · have h5 : ¬ l.tt ≤ q.tt := by omega
        simp [h3, h4, h5]
      · have h5 : l.tt ≤ q.tt := by omega
        by_cases h6 : l.tt < q.tt <;> simp [h3, h4, h5, h6]

set_option maxRecDepth 100000 in
set_option maxHeartbeats 1000000 in
theorem ncompare_any (x y : Lk) (w : World) : Calls Tryz.prog 113 #[.agg #[.int .i64 x.fr, .int .i64 x.tt, .int .i64 x.ls], .agg #[.int .i64 y.fr, .int .i64 y.tt, .int .i64 y.ls]] w
    fun e w' => e = .returned (.int .i64 (orI [Rc.cmpI x.fr y.fr, Rc.cmpI x.tt y.tt])) ∧ Below w.heap.size w w' := by
  obtain ⟨f, t, l⟩ := x
  obtain ⟨f', t', l'⟩ := y
  dsimp only
  obtain ⟨W1, hW1⟩ : ∃ W1, W1 = (w.alloc (.cells #[.int .i64 f, .int .i64 t, .int .i64 l] 60)).alloc (.cells #[.int .i64 f', .int .i64 t', .int .i64 l'] 60) := ⟨_, rfl⟩
  have hb1 : Below w.heap.size w W1 := by rw [hW1]; exact ((Below.refl _ _).alloc (Nat.le_refl _) _).alloc (by simp) _
  have b1 : Blk W1 w.heap.size 60 [.int .i64 f, .int .i64 t, .int .i64 l] := by rw [hW1]; exact Blk.alloc (Blk.new2 _ [.int .i64 f, .int .i64 t, .int .i64 l] rfl) _
  have b2 : Blk W1 (w.heap.size + 1) 60 [.int .i64 f', .int .i64 t', .int .i64 l'] := by rw [hW1]; exact Blk.new2 _ [.int .i64 f', .int .i64 t', .int .i64 l'] (by simp)
  have HW1 := Lib.hid hW1
  clear hW1
  go_enter Tryz.func113, Tryz.ntmps113
  go_upto_region 1 with fail
  rw [← HW1.out]
  have x1 := b1.row.ext (B := W1.heap.size) b1.lt
  have x2 := b2.row.ext (B := W1.heap.size) b2.lt
  refine wp_region_ext_tail W1.heap.size 10 (by kernel_rfl) (by kernel_rfl) ?_
  simp only [List.take_succ_cons, List.take_zero, List.drop_succ_cons, List.drop_zero]
  repeat (go_big_quiet_step ((go_at_call 62; exact Calls.ext_same (cmp_any _ _ _))))
  refine wpQuiet_nil ?_
  rintro _ ⟨x, rfl⟩
  have hb' := hb1.trans (x.below.mono hb1.size)
  obtain ⟨W, hW⟩ := x
  go_wp2_with (go_at_call 61; refine (or_any [cmpI f f', cmpI t t'] _ 0 2 _ (by simp) ?_).mono ?_)
  · exact fun k x hx => ints_get hx
  go_ret
  exact ⟨rfl, hb'.alloc (hb'.size) _⟩

theorem clink1_any (a nodes : Int) (g : Nat) (w : World) (hc : w.cell? ⟨g, 0, none⟩ = some (.int .i64 nodes)) :
    Calls Tryz.prog 135 #[.int .i64 a, .pointer (some ⟨g, 0, none⟩)] w fun e w' => e = .returned (.bool (Nd.inB a 0 (nodes - 1))) ∧ Below w.heap.size w w' := by
  have hi : Nd.inB a 0 (nodes - 1) = (decide (0 ≤ a) && decide (a < nodes)) := by
    unfold Nd.inB
    congr 1
    exact decide_eq_decide.2 (by omega)
  rw [hi]
  go_enter Tryz.func135, Tryz.ntmps135
  go_wp2
  all_goals
    go_ret
    exact ⟨ret_bool (by first | (simp [*]; done) | (simp [*]; omega)), Below.refl _ _⟩
end Go.Proofs.YticnppnejafhdaaGreatDoor
/- Walks: package network: checkLink, Check. -/
namespace Go.Proofs.YticnppnejafhdaaGreatDoor
open Go.RowKit
open Nd Rc Mo

/-- The link ahead of the one at i. -/
def prevL (lk : List Lk) (i : Nat) : Option Lk := if i = 0 then none else lk[i - 1]?
theorem pow_at {pw : List PRow} {nodes : Int} (hpn : ((pw.length : Nat) : Int) = nodes) (hrow : ∀ p ∈ pw, ((p.l.length : Nat) : Int) = nodes) {a b : Int} (ha : 0 ≤ a ∧ a ≤ nodes - 1) (hb : 0 ≤ b ∧ b ≤ nodes - 1) :
    ∃ p v, pw[a.toNat]? = some p ∧ p.l[b.toNat]? = some v ∧ powAt (pw.map PRow.l) a b = v := by
  obtain ⟨p, hp⟩ := get_of_lt (l := pw) (k := a.toNat) (by omega)
  have hr := hrow p (List.mem_of_getElem? hp)
  obtain ⟨v, hv⟩ := get_of_lt (l := p.l) (k := b.toNat) (by omega)
  refine ⟨p, v, hp, hv, ?_⟩
  unfold powAt
  rw [List.getD_eq_getElem?_getD, List.getD_eq_getElem?_getD, List.getElem?_map, hp]
  simp [hv]

set_option maxRecDepth 100000 in
set_option maxHeartbeats 4000000 in
theorem clink_any (nodes noise thr : Int) (pw : List PRow) (lk : List Lk) (mg : List Int) (P L G : Option Addr) (cp cl cg : Nat) (i : Nat) (l : Lk) (m : Int) (w : World) (hP : LiesP w w.heap.size P pw) (hp : pw.length ≤ 1000000) (hL : Lies w w.heap.size 3 L (lk.map Lk.row)) (hl : lk.length ≤ 1000000) (hG : LiesI w w.heap.size G mg) (hg : mg.length = lk.length)
    (hpn : ((pw.length : Nat) : Int) = nodes) (hrow : ∀ p ∈ pw, ((p.l.length : Nat) : Int) = nodes) (hi : lk[i]? = some l) (hm : mg[i]? = some m) :
    Calls Tryz.prog 92 #[.agg #[.int .i64 nodes, .slice P pw.length cp, .int .i64 noise, .int .i64 thr, .slice L lk.length cl, .slice G mg.length cg], .int .i64 (i : Nat)] w fun e w' => e = .returned (.int .i64 (lkE nodes (pw.map PRow.l) (prevL lk i) l m)) ∧ Below w.heap.size w w' := by
  obtain ⟨np, hnp⟩ : ∃ n, n = pw.length := ⟨_, rfl⟩
  obtain ⟨nl, hnl⟩ : ∃ n, n = lk.length := ⟨_, rfl⟩
  obtain ⟨nm, hnm⟩ : ∃ n, n = mg.length := ⟨_, rfl⟩
  have hil : i < nl := by rw [hnl]; exact (List.getElem?_eq_some_iff.1 hi).1
  have him : i < nm := by omega
  have hl6 : nl ≤ 1000000 := by omega
  obtain ⟨T, hT⟩ : ∃ T, T = lkE nodes (pw.map PRow.l) (prevL lk i) l m := ⟨_, rfl⟩
  obtain ⟨N, hN⟩ : ∃ N, N = w.heap.size := ⟨_, rfl⟩
  rw [← hT, ← hnp, ← hnl, ← hnm]
  obtain ⟨W1, hW1⟩ : ∃ W1, W1 = w.alloc (.cells #[.int .i64 nodes, .slice P np cp, .int .i64 noise, .int .i64 thr, .slice L nl cl, .slice G nm cg] 26) := ⟨_, rfl⟩
  have hb1 : Below N w W1 := by rw [hW1, hN]; exact (Below.refl _ _).alloc (Nat.le_refl _) _
  have bN : Blk W1 N 26 [.int .i64 nodes, .slice P np cp, .int .i64 noise, .int .i64 thr, .slice L nl cl, .slice G nm cg] := by rw [hW1]; exact Blk.new2 _ [.int .i64 nodes, .slice P np cp, .int .i64 noise, .int .i64 thr, .slice L nl cl, .slice G nm cg] hN
  have HW := Lib.hid (fun W (h' : Below W1.heap.size W1 W) => (show Below w.heap.size w W ∧ Row W N [.int .i64 nodes, .slice P np cp, .int .i64 noise, .int .i64 thr, .slice L nl cl, .slice G nm cg] from ⟨by rw [← hN]; exact hb1.trans (h'.mono (by have := bN.lt; omega)), (bN.below h' bN.lt).row⟩))
  have HP := Lib.hid (fun W (h' : Below W1.heap.size W1 W) => LiesP.later hP (HW.out W h').1)
  have HL := Lib.hid (fun W (h' : Below W1.heap.size W1 W) => (hL.below (HW.out W h').1).more (HW.out W h').1.size)
  have HGm := Lib.hid (fun W (h' : Below W1.heap.size W1 W) => (hG.below (HW.out W h').1).more (HW.out W h').1.size)
  have Con := Lib.hid (fun (a : Int) W (h' : Below W1.heap.size W1 W) => clink1_any a nodes N W ((HW.out W h').2 0))
  have HT := Lib.hid hT
  have HPn := Lib.hid (And.intro hpn hrow)
  have HI := Lib.hid hi
  have HMm := Lib.hid hm
  have HNl := Lib.hid hnl
  have HNm := Lib.hid hnm
  have HNp := Lib.hid hnp
  have HN := Lib.hid hN
  have HW1 := Lib.hid hW1
  have hNl := bN.lt
  have hz1 : W1.heap.size = N + 1 := by rw [hW1, hN]; simp
  obtain ⟨lb, loff, hLe, hlB, hcs⟩ := (HL.out _ (Below.refl _ _)).at_ hi
  have c0 := hcs i l hi 0 _ rfl
  have c1 := hcs i l hi 1 _ rfl
  have c2 := hcs i l hi 2 _ rfl
  simp only [Nat.add_zero] at c0 c1 c2
  have HLe := Lib.hid hLe
  subst hLe
  have r1 := (HW.out _ (Below.refl _ _)).2
  rw [HW1.out] at r1 c0 c1 c2
  rw [HN.out] at r1
  unfold Row at r1
  clear hP hp hL hl hG hg hpn hrow hi hm hT hN hW1 hb1 bN hnl hnm hnp hcs
  go_enter Tryz.func92, Tryz.ntmps92
  go_upto_region 3 with fail
  rw [← HW1.out, ← HN.out]
  clear r1 c0 c1 c2
  obtain ⟨X, hX⟩ : ∃ X, X = N + 1 := ⟨_, rfl⟩
  generalize hWa : World.alloc _ _ = Wa
  have bX : Blk Wa X 60 [.int .i64 l.fr, .int .i64 l.tt, .int .i64 l.ls] := by rw [← hWa]; exact Blk.new2 _ [.int .i64 l.fr, .int .i64 l.tt, .int .i64 l.ls] (by rw [hX, hz1])
  have hBa : Below W1.heap.size W1 Wa := by rw [← hWa]; exact (Below.refl _ _).alloc (Nat.le_refl _) _
  rw [← hX]
  clear hWa hX hz1
  have rX := bX.row
  unfold Row at rX
  go_wp2_with fail
  refine (Con.out _ _ hBa).mono ?_
  rintro e w2 ⟨rfl, hb2⟩
  have hB2 : Below W1.heap.size W1 w2 := hBa.trans (hb2.mono hBa.size)
  have bX2 := bX.below hb2 bX.lt
  clear rX bX
  have rX := bX2.row
  unfold Row at rX
  cases c1 : Nd.inB l.fr 0 (nodes - 1) with
  | false =>
    have hf : Hid (T = 2) := Lib.hid (by rw [HT.out]; unfold lkE; rw [if_pos (by unfold lkB; rw [c1]; rfl)])
    go_wp2_with fail
    go_ret
    exact ⟨ret_int (by rw [hf.out]), (HW.out _ hB2).1⟩
  | true =>
    go_wp2_with fail
    refine (Con.out _ _ hB2).mono ?_
    rintro e w3 ⟨rfl, hb3⟩
    have hB3 : Below W1.heap.size W1 w3 := hB2.trans (hb3.mono hB2.size)
    have bX3 := bX2.below hb3 bX2.lt
    clear rX bX2 hBa hb2 Con
    have rX := bX3.row
    unfold Row at rX
    cases c2 : Nd.inB l.tt 0 (nodes - 1) with
    | false =>
      have hf : Hid (T = 2) := Lib.hid (by rw [HT.out]; unfold lkE; rw [if_pos (by unfold lkB; rw [c1, c2]; rfl)])
      go_wp2_with fail
      go_ret
      exact ⟨ret_int (by rw [hf.out]), (HW.out _ hB3).1⟩
    | true =>
      cases c3 : (l.fr == l.tt) with
      | true =>
        have hf : Hid (T = 2) := Lib.hid (by rw [HT.out]; unfold lkE; rw [if_pos (by unfold lkB; rw [c1, c2, c3]; rfl)])
        go_wp2_with fail
        go_ret
        exact ⟨ret_int (by rw [hf.out]), (HW.out _ hB3).1⟩
      | false =>
        by_cases d4 : l.ls < 0
        · have e4 : decide (l.ls < 0) = true := decide_eq_true d4
          have c4 : Nd.inB l.ls 0 7 = false := by unfold Nd.inB; rw [decide_eq_false (by omega)]; rfl
          have hf : Hid (T = 2) := Lib.hid (by rw [HT.out]; unfold lkE; rw [if_pos (by unfold lkB; rw [c1, c2, c3, c4]; rfl)])
          go_wp2_with fail
          go_ret
          exact ⟨ret_int (by rw [hf.out]), (HW.out _ hB3).1⟩
        have e4 : decide (l.ls < 0) = false := decide_eq_false d4
        by_cases d5 : 7 < l.ls
        · have e5 : decide (7 < l.ls) = true := decide_eq_true d5
          have c4 : Nd.inB l.ls 0 7 = false := by unfold Nd.inB; rw [decide_eq_false (p := l.ls ≤ 7) (by omega), Bool.and_false]
          have hf : Hid (T = 2) := Lib.hid (by rw [HT.out]; unfold lkE; rw [if_pos (by unfold lkB; rw [c1, c2, c3, c4]; rfl)])
          go_wp2_with fail
          go_ret
          exact ⟨ret_int (by rw [hf.out]), (HW.out _ hB3).1⟩
        have e5 : decide (7 < l.ls) = false := decide_eq_false d5
        have c4 : Nd.inB l.ls 0 7 = true := by unfold Nd.inB; rw [decide_eq_true (p := 0 ≤ l.ls) (by omega), decide_eq_true (p := l.ls ≤ 7) (by omega)]; rfl
        have HT2 : Hid (T = if prevBadL (prevL lk i) l = true then 5 else if m < 0 ∨ powAt (pw.map PRow.l) l.fr l.tt < m then 2 else 0) := Lib.hid (by rw [HT.out]; unfold lkE; rw [if_neg (by unfold lkB; rw [c1, c2, c3, c4]; decide)])
        have HI1 := Lib.hid (show (0 ≤ l.fr ∧ l.fr ≤ nodes - 1) ∧ (0 ≤ l.tt ∧ l.tt ≤ nodes - 1) from by
          simp only [Nd.inB, Bool.and_eq_true, decide_eq_true_eq] at c1 c2
          exact ⟨c1, c2⟩)
        clear HT c4 d4 d5 c1 c2
        go_upto_region 5 with fail
        clear rX e4 e5 c3
        have rX3 := bX3.row
        have rN3 := (HW.out _ hB3).2
        have hXl : X < w3.heap.size := bX3.lt
        have hNl3 : N < w3.heap.size := by have := hB3.size; omega
        have HB3s := Lib.hid (Nat.le_refl w3.heap.size)
        have yN : ∀ (x' : ExtW w3.heap.size w3) (j : Nat), x'.val.cell? ⟨N, j, none⟩ = _ := fun x' j => (x'.cell _ hNl3).trans (rN3 j)
        have yX : ∀ (x' : ExtW w3.heap.size w3) (j : Nat), x'.val.cell? ⟨X, j, none⟩ = _ := fun x' j => (x'.cell _ hXl).trans (rX3 j)
        go_cut [43] (fun s43 W => s43 = .bool (prevBadL (prevL lk i) l) ∧ Below w3.heap.size w3 W)
        case first =>
          cases i with
          | zero =>
            refine wp_region_ext w3.heap.size (by kernel_rfl) (by kernel_rfl) ?_
            repeat (go_big_quiet_step (fail))
            refine wpQuiet_nil ?_
            rintro _ ⟨x', rfl⟩
            go_wp2_with fail
            go_meet
            exact ⟨rfl, x'.below⟩
          | succ k =>
            obtain ⟨q, hq⟩ := get_of_lt (l := lk) (k := k) (by have := HNl.out; omega)
            obtain ⟨lb', loff', he', hlB', hcs'⟩ := (HL.out _ hB3).at_ hq
            have hval : prevBadL (prevL lk (k + 1)) l = decide (0 ≤ orI [Rc.cmpI q.fr l.fr, Rc.cmpI q.tt l.tt]) := by
              rw [prevL_eq]
              unfold prevL
              rw [if_neg (by omega), Nat.add_sub_cancel, hq]
            have HVal := Lib.hid hval
            clear hval
            simp only [Option.some.injEq, Addr.mk.injEq, and_true] at he'
            obtain ⟨rfl, rfl⟩ := he'
            have q0 := hcs' k q hq 0 _ rfl
            have q1 := hcs' k q hq 1 _ rfl
            have q2 := hcs' k q hq 2 _ rfl
            simp only [Nat.add_zero] at q0 q1 q2
            have y0 : ∀ (x' : ExtW w3.heap.size w3), x'.val.cell? ⟨lb, loff + k * 3, none⟩ = some (.int .i64 q.fr) := fun x' => (x'.cell _ hlB').trans q0
            have y1 : ∀ (x' : ExtW w3.heap.size w3), x'.val.cell? ⟨lb, loff + k * 3 + 1, none⟩ = some (.int .i64 q.tt) := fun x' => (x'.cell _ hlB').trans q1
            have y2 : ∀ (x' : ExtW w3.heap.size w3), x'.val.cell? ⟨lb, loff + k * 3 + 2, none⟩ = some (.int .i64 q.ls) := fun x' => (x'.cell _ hlB').trans q2
            have Con2 := Lib.hid (fun W => ncompare_any q l W)
            generalize orI [Rc.cmpI q.fr l.fr, Rc.cmpI q.tt l.tt] = V at *
            have hkl : k < nl := by omega
            have hw1 : IntKind.i64.wrap (((k + 1 : Nat) : Int) - 1) = (k : Int) := by rw [IntWalk.i64_in _ (by omega)]; omega
            have hd1 : decide ((0 : Int) < ((k + 1 : Nat) : Int)) = true := decide_eq_true (by omega)
            have hd2 : decide ((0 : Int) < (k : Int) + 1) = true := decide_eq_true (by omega)
            have hw2 : IntKind.i64.wrap ((k : Int) + 1 - 1) = (k : Int) := by rw [IntWalk.i64_in _ (by omega)]; omega
            clear q0 q1 q2 hcs' hq
            refine wp_region_ext w3.heap.size (by kernel_rfl) (by kernel_rfl) ?_
            repeat (go_big_quiet_step ((go_at_call 113; exact Calls.ext_of (Con2.out _) HB3s.out)))
            refine wpQuiet_nil ?_
            rintro _ ⟨x', rfl⟩
            go_wp2_with fail
            go_meet
            exact ⟨by rw [HVal.out], x'.below⟩
        case rest =>
          obtain ⟨rfl, hb4⟩ := hcut
          clear yN yX
          have hB4 : Below W1.heap.size W1 wc := hB3.trans (hb4.mono hB3.size)
          cases hpb : prevBadL (prevL lk i) l with
          | true =>
            have hf : Hid (T = 5) := Lib.hid (by rw [HT2.out, hpb]; rfl)
            go_wp2_with fail
            go_ret
            exact ⟨ret_int (by rw [hf.out]), (HW.out _ hB4).1⟩
          | false =>
            obtain ⟨p, v, hp, hv, hpv⟩ := pow_at HPn.out.1 HPn.out.2 HI1.out.1 HI1.out.2
            have HT3 : Hid (T = if m < 0 ∨ v < m then 2 else 0) := Lib.hid (by rw [HT2.out, hpb, hpv]; rfl)
            obtain ⟨fa, hfa⟩ : ∃ a : Nat, l.fr = (a : Int) := ⟨l.fr.toNat, by have := HI1.out; omega⟩
            obtain ⟨ta, hta⟩ : ∃ a : Nat, l.tt = (a : Int) := ⟨l.tt.toNat, by have := HI1.out; omega⟩
            rw [hfa, Int.toNat_natCast] at hp
            rw [hta, Int.toNat_natCast] at hv
            have hrl : ((p.l.length : Nat) : Int) = nodes := HPn.out.2 p (List.mem_of_getElem? hp)
            obtain ⟨pb, poff, hPe, hpB, hpcs⟩ := (HP.out _ hB4).1.at_ hp
            have pc := hpcs fa p hp 0 _ rfl
            simp only [Nat.mul_one, Nat.add_zero] at pc
            obtain ⟨vb, voff, hVe, hvB, hvc⟩ := ((HP.out _ hB4).2 p (List.mem_of_getElem? hp)).1.at_ hv
            have vc := hvc ta v hv
            obtain ⟨gb, goff, hGe, hgB, hgc⟩ := (HGm.out _ hB4).at_ HMm.out
            have gc := hgc i m HMm.out
            have rN4 := (HW.out _ hB4).2
            have rX4 := (bX3.below hb4 hXl).row
            have hfl : fa < np := by have := HI1.out; have := HPn.out.1; have := HNp.out; omega
            obtain ⟨rl, hrle⟩ : ∃ rl, rl = p.l.length := ⟨_, rfl⟩
            have htl : ta < rl := by have := HI1.out; omega
            rw [← hrle] at pc
            rw [hVe] at pc
            have hXl4 : X < wc.heap.size := Nat.lt_of_lt_of_le hXl hb4.size
            have hNl4 : N < wc.heap.size := Nat.lt_of_lt_of_le hNl3 hb4.size
            subst hPe hGe
            rw [hfa, hta] at rX4
            have yN : ∀ (x' : ExtW wc.heap.size wc) (j : Nat), x'.val.cell? ⟨N, j, none⟩ = _ := fun x' j => (x'.cell _ hNl4).trans (rN4 j)
            have yX : ∀ (x' : ExtW wc.heap.size wc) (j : Nat), x'.val.cell? ⟨X, j, none⟩ = _ := fun x' j => (x'.cell _ hXl4).trans (rX4 j)
            have yp : ∀ (x' : ExtW wc.heap.size wc), x'.val.cell? ⟨pb, poff + fa, none⟩ = some (.slice (some ⟨vb, voff, none⟩) rl p.c) := fun x' => (x'.cell _ hpB).trans pc
            have yv : ∀ (x' : ExtW wc.heap.size wc), x'.val.cell? ⟨vb, voff + ta, none⟩ = some (.int .i64 v) := fun x' => (x'.cell _ hvB).trans vc
            have yg : ∀ (x' : ExtW wc.heap.size wc), x'.val.cell? ⟨gb, goff + i, none⟩ = some (.int .i64 m) := fun x' => (x'.cell _ hgB).trans gc
            clear hpcs pc hvc vc hgc gc rN4 rX4 hpv hrl hfa hta hp hv hrle hVe HT2 hpb
            go_upto_region 7 with fail
            by_cases d6 : m < 0
            · have e6 : decide (m < 0) = true := decide_eq_true d6
              have hf : Hid (T = 2) := Lib.hid (by rw [HT3.out, if_pos (.inl d6)])
              clear d6
              refine wp_region_ext wc.heap.size (by kernel_rfl) (by kernel_rfl) ?_
              repeat (go_big_quiet_step (fail))
              refine wpQuiet_nil ?_
              rintro _ ⟨x', rfl⟩
              have hfin := (HW.out _ (hB4.trans (x'.below.mono hB4.size))).1
              go_wp2_with fail
              go_ret
              exact ⟨ret_int (by rw [hf.out]), hfin⟩
            · have e6 : decide (m < 0) = false := decide_eq_false d6
              by_cases d7 : v < m
              · have e7 : decide (v < m) = true := decide_eq_true d7
                have hf : Hid (T = 2) := Lib.hid (by rw [HT3.out, if_pos (.inr d7)])
                clear d6 d7
                refine wp_region_ext wc.heap.size (by kernel_rfl) (by kernel_rfl) ?_
                repeat (go_big_quiet_step (fail))
                refine wpQuiet_nil ?_
                rintro _ ⟨x', rfl⟩
                have hfin := (HW.out _ (hB4.trans (x'.below.mono hB4.size))).1
                go_wp2_with fail
                go_ret
                exact ⟨ret_int (by rw [hf.out]), hfin⟩
              · have e7 : decide (v < m) = false := decide_eq_false d7
                have hf : Hid (T = 0) := Lib.hid (by rw [HT3.out, if_neg (by omega)])
                clear d6 d7
                refine wp_region_ext wc.heap.size (by kernel_rfl) (by kernel_rfl) ?_
                repeat (go_big_quiet_step (fail))
                refine wpQuiet_nil ?_
                rintro _ ⟨x', rfl⟩
                have hfin := (HW.out _ (hB4.trans (x'.below.mono hB4.size))).1
                go_wp2_with fail
                go_ret
                exact ⟨ret_int (by rw [hf.out]), hfin⟩
end Go.Proofs.YticnppnejafhdaaGreatDoor
/- Walk: package network: Check. -/
namespace Go.Proofs.YticnppnejafhdaaGreatDoor
open Go.RowKit
open Nd Rc Mo

theorem powE_zero {nodes : Int} {pow : List (List Int)} (h : powE nodes pow = 0) : ((pow.length : Nat) : Int) = nodes ∧ (∀ r ∈ pow, ((r.length : Nat) : Int) = nodes) ∧ ∀ r ∈ pow, ∀ p ∈ r, 0 ≤ p ∧ p ≤ 68719476736 := by
  unfold powE at h
  split at h
  · cases h
  · rename_i h1
    split at h
    · cases h
    · rename_i h2
      refine ⟨Classical.byContradiction fun hh => h1 (.inl hh), fun r hr => ?_, fun r hr p hp => ?_⟩
      · refine Classical.byContradiction fun hh => h1 (.inr (List.any_eq_true.2 ⟨r, hr, by simpa using hh⟩))
      · refine Classical.byContradiction fun hh => h2 (List.any_eq_true.2 ⟨r, hr, List.any_eq_true.2 ⟨p, hp, ?_⟩⟩)
        unfold outP
        rw [Bool.or_eq_true, decide_eq_true_eq, decide_eq_true_eq]
        omega
theorem prevL_succ {lk : List Lk} {k : Nat} {l : Lk} (h : lk[k]? = some l) : prevL lk (k + 1) = some l := by
  unfold prevL
  rw [if_neg (by omega), Nat.add_sub_cancel, h]

set_option maxRecDepth 100000 in
set_option maxHeartbeats 4000000 in
theorem netCheck_any (nodes noise thr : Int) (pw : List PRow) (lk : List Lk) (mg : List Int) (P L G : Option Addr) (cp cl cg : Nat) (w : World) (hP : LiesP w w.heap.size P pw) (hp : pw.length ≤ 1000000) (hL : Lies w w.heap.size 3 L (lk.map Lk.row)) (hl : lk.length ≤ 1000000) (hG : LiesI w w.heap.size G mg) (hg : mg.length ≤ 1000000) :
    Calls Tryz.prog 55 #[.agg #[.int .i64 nodes, .slice P pw.length cp, .int .i64 noise, .int .i64 thr, .slice L lk.length cl, .slice G mg.length cg]] w fun e w' => e = .returned (.int .i64 (chkN ⟨nodes, noise, thr, pw.map PRow.l, lk, mg⟩)) ∧ Below w.heap.size w w' := by
  obtain ⟨np, hnp⟩ : ∃ n, n = pw.length := ⟨_, rfl⟩
  obtain ⟨nl, hnl⟩ : ∃ n, n = lk.length := ⟨_, rfl⟩
  obtain ⟨nm, hnm⟩ : ∃ n, n = mg.length := ⟨_, rfl⟩
  obtain ⟨T, hT⟩ : ∃ T, T = chkN ⟨nodes, noise, thr, pw.map PRow.l, lk, mg⟩ := ⟨_, rfl⟩
  obtain ⟨N, hN⟩ : ∃ N, N = w.heap.size := ⟨_, rfl⟩
  rw [← hT, ← hnp, ← hnl, ← hnm]
  unfold chkN at hT
  dsimp only at hT
  rw [← hnl, ← hnm] at hT
  obtain ⟨W1, hW1⟩ : ∃ W1, W1 = w.alloc (.cells #[.int .i64 nodes, .slice P np cp, .int .i64 noise, .int .i64 thr, .slice L nl cl, .slice G nm cg] 26) := ⟨_, rfl⟩
  have hb1 : Below N w W1 := by rw [hW1, hN]; exact (Below.refl _ _).alloc (Nat.le_refl _) _
  have bN : Blk W1 N 26 [.int .i64 nodes, .slice P np cp, .int .i64 noise, .int .i64 thr, .slice L nl cl, .slice G nm cg] := by rw [hW1]; exact Blk.new2 _ [.int .i64 nodes, .slice P np cp, .int .i64 noise, .int .i64 thr, .slice L nl cl, .slice G nm cg] hN
  have HW := Lib.hid (fun W (h' : Below W1.heap.size W1 W) => (show Below w.heap.size w W ∧ Row W N [.int .i64 nodes, .slice P np cp, .int .i64 noise, .int .i64 thr, .slice L nl cl, .slice G nm cg] from ⟨by rw [← hN]; exact hb1.trans (h'.mono (by have := bN.lt; omega)), (bN.below h' bN.lt).row⟩))
  have HPw := Lib.hid (cpow_any nodes noise thr pw lk mg P L G cp cl cg W1 (hP.later (HW.out _ (Below.refl _ _)).1) hp)
  have HLk := Lib.hid (fun (hpn : ((pw.length : Nat) : Int) = nodes) (hrow : ∀ p ∈ pw, ((p.l.length : Nat) : Int) = nodes) (he : mg.length = lk.length) i l m (hi : lk[i]? = some l) (hm : mg[i]? = some m) W (h' : Below W1.heap.size W1 W) => clink_any nodes noise thr pw lk mg P L G cp cl cg i l m W (hP.later (HW.out W h').1) hp ((hL.below (HW.out W h').1).more (HW.out W h').1.size) hl ((hG.below (HW.out W h').1).more (HW.out W h').1.size) he hpn hrow hi hm)
  rw [← hnp, ← hnl, ← hnm] at HPw HLk
  have hl6 : nl ≤ 1000000 := by omega
  have HT := Lib.hid hT
  have HNl := Lib.hid hnl
  have HNm := Lib.hid hnm
  have HNp := Lib.hid hnp
  have HN := Lib.hid hN
  have HW1 := Lib.hid hW1
  have hNl := bN.lt
  have r1 := (HW.out _ (Below.refl _ _)).2
  rw [HW1.out] at r1
  rw [HN.out] at r1
  unfold Row at r1
  clear hP hp hL hl hG hg hT hN hW1 hb1 bN hnl hnm hnp
  go_enter Tryz.func55, Tryz.ntmps55
  by_cases g1 : nodes < 2
  · have d1 : decide (nodes < 2) = true := decide_eq_true g1
    have hf : Hid (T = 2) := Lib.hid (by rw [HT.out, if_pos (.inl g1)])
    clear g1
    go_wp2_with fail
    go_ret
    exact ⟨ret_int (by rw [hf.out]), by rw [← HW1.out]; exact (HW.out _ (Below.refl _ _)).1⟩
  have d1 : decide (nodes < 2) = false := decide_eq_false g1
  by_cases g2 : 32 < nodes
  · have d2 : decide (32 < nodes) = true := decide_eq_true g2
    have hf : Hid (T = 2) := Lib.hid (by rw [HT.out, if_pos (.inr g2)])
    clear g1 g2
    go_wp2_with fail
    go_ret
    exact ⟨ret_int (by rw [hf.out]), by rw [← HW1.out]; exact (HW.out _ (Below.refl _ _)).1⟩
  have d2 : decide (32 < nodes) = false := decide_eq_false g2
  have HT1 : Hid (T = if powE nodes (pw.map PRow.l) ≠ 0 then powE nodes (pw.map PRow.l) else if Nd.inB noise 0 68719476736 = false ∨ Nd.inB thr 1000 100000 = false then 2 else if 128 < nl then 8 else if nm ≠ nl then 11 else lkGo nodes (pw.map PRow.l) none lk mg) := Lib.hid (by rw [HT.out, if_neg (by omega)])
  clear HT g1 g2
  go_wp2_with fail
  rw [← HW1.out, ← HN.out]
  refine HPw.out.mono ?_
  rintro e w2 ⟨rfl, hb2⟩
  clear HPw d1 d2 r1
  have r1 := (HW.out _ hb2).2
  unfold Row at r1
  obtain ⟨E, hE⟩ : ∃ E, E = powE nodes (pw.map PRow.l) := ⟨_, rfl⟩
  have HE := Lib.hid hE
  rw [← hE] at HT1 ⊢
  clear hE
  by_cases g3 : E = 0
  case neg =>
    have d3 : (E != 0) = true := by simpa using g3
    have hf : Hid (T = E) := Lib.hid (by rw [HT1.out, if_pos g3])
    clear g3
    go_wp2_with fail
    go_ret
    exact ⟨ret_int (by rw [hf.out]), (HW.out _ hb2).1⟩
  have d3 : (E != 0) = false := by simpa using g3
  have HT2 : Hid (T = if Nd.inB noise 0 68719476736 = false ∨ Nd.inB thr 1000 100000 = false then 2 else if 128 < nl then 8 else if nm ≠ nl then 11 else lkGo nodes (pw.map PRow.l) none lk mg) := Lib.hid (by rw [HT1.out, if_neg (by simpa using g3)])
  have HPz := Lib.hid (powE_zero (by rw [← HE.out]; exact g3 : powE nodes (pw.map PRow.l) = 0))
  clear HT1 g3 HE
  by_cases g4 : noise < 0
  · have dg4 : decide (noise < 0) = true := decide_eq_true g4
    have hf : Hid (T = 2) := Lib.hid (by rw [HT2.out, if_pos (.inl (by unfold Nd.inB; rw [decide_eq_false (p := 0 ≤ noise) (by omega)]; rfl))])
    clear g4
    go_wp2_with fail
    go_ret
    exact ⟨ret_int (by rw [hf.out]), (HW.out _ hb2).1⟩
  have dg4 : decide (noise < 0) = false := decide_eq_false g4
  by_cases g5 : 68719476736 < noise
  · have dg5 : decide (68719476736 < noise) = true := decide_eq_true g5
    have hf : Hid (T = 2) := Lib.hid (by rw [HT2.out, if_pos (.inl (by unfold Nd.inB; rw [decide_eq_false (p := noise ≤ 68719476736) (by omega), Bool.and_false]))])
    clear g4 g5
    go_wp2_with fail
    go_ret
    exact ⟨ret_int (by rw [hf.out]), (HW.out _ hb2).1⟩
  have dg5 : decide (68719476736 < noise) = false := decide_eq_false g5
  by_cases g6 : thr < 1000
  · have dg6 : decide (thr < 1000) = true := decide_eq_true g6
    have hf : Hid (T = 2) := Lib.hid (by rw [HT2.out, if_pos (.inr (by unfold Nd.inB; rw [decide_eq_false (p := 1000 ≤ thr) (by omega)]; rfl))])
    clear g4 g5 g6
    go_wp2_with fail
    go_ret
    exact ⟨ret_int (by rw [hf.out]), (HW.out _ hb2).1⟩
  have dg6 : decide (thr < 1000) = false := decide_eq_false g6
  by_cases g7 : 100000 < thr
  · have dg7 : decide (100000 < thr) = true := decide_eq_true g7
    have hf : Hid (T = 2) := Lib.hid (by rw [HT2.out, if_pos (.inr (by unfold Nd.inB; rw [decide_eq_false (p := thr ≤ 100000) (by omega), Bool.and_false]))])
    clear g4 g5 g6 g7
    go_wp2_with fail
    go_ret
    exact ⟨ret_int (by rw [hf.out]), (HW.out _ hb2).1⟩
  have dg7 : decide (100000 < thr) = false := decide_eq_false g7
  have HT3 : Hid (T = if 128 < nl then 8 else if nm ≠ nl then 11 else lkGo nodes (pw.map PRow.l) none lk mg) := Lib.hid (by rw [HT2.out, if_neg (by unfold Nd.inB; rw [decide_eq_true (p := 0 ≤ noise) (by omega), decide_eq_true (p := noise ≤ 68719476736) (by omega), decide_eq_true (p := 1000 ≤ thr) (by omega), decide_eq_true (p := thr ≤ 100000) (by omega)]; decide)])
  clear HT2 g4 g5 g6 g7
  by_cases g8 : 128 < nl
  · have d8 : decide ((128 : Int) < (nl : Int)) = true := decide_eq_true (by omega)
    have d8' : decide (128 < nl) = true := decide_eq_true g8
    have hf : Hid (T = 8) := Lib.hid (by rw [HT3.out, if_pos g8])
    go_wp2_with fail
    go_ret
    exact ⟨ret_int (by rw [hf.out]), (HW.out _ hb2).1⟩
  have d8 : decide ((128 : Int) < (nl : Int)) = false := decide_eq_false (by omega)
  have d8' : decide (128 < nl) = false := decide_eq_false g8
  by_cases g9 : nm = nl
  case neg =>
    have hf : Hid (T = 11) := Lib.hid (by rw [HT3.out, if_neg g8, if_pos g9])
    have d9 : ((nm : Int) != (nl : Int)) = true := by simp; omega
    have d9' : ¬ (nm : Int) = (nl : Int) := by omega
    go_wp2_with fail
    go_ret
    exact ⟨ret_int (by rw [hf.out]), (HW.out _ hb2).1⟩
  have HT4 : Hid (T = lkGo nodes (pw.map PRow.l) none lk mg) := Lib.hid (by rw [HT3.out, if_neg g8, if_neg (by simpa using g9)])
  have HL2 := Lib.hid (HLk.out (by have := HPz.out.1; rw [List.length_map, ← HNp.out] at this; exact this) (fun p hp => HPz.out.2.1 _ (List.mem_map_of_mem hp)) g9)
  subst g9
  have d9 : ((nm : Int) != (nm : Int)) = false := by simp
  clear HT3 HLk HPz g8
  go_wp2_with fail
  clear r1
  go_loopw [54] (fun i wr => ∃ (k : Nat), k ≤ nm ∧ i = .int .i64 k ∧ Below W1.heap.size W1 wr ∧ Hid (T = lkGo nodes (pw.map PRow.l) (prevL lk k) (lk.drop k) (mg.drop k))) (fun i _ => nm - (intOf i).toNat)
  case atStart => exact ⟨0, by omega, rfl, hb2, Lib.hid (by rw [HT4.out]; rfl)⟩
  case round =>
    clear HT4 hb2
    obtain ⟨k, hk, rfl, hb, HS⟩ := hrel
    by_cases hlt : k < nm
    · obtain ⟨l, hlk⟩ := get_of_lt (l := lk) (k := k) (by rw [← HNl.out]; exact hlt)
      obtain ⟨m, hmk⟩ := get_of_lt (l := mg) (k := k) (by rw [← HNm.out]; exact hlt)
      have Con := Lib.hid (HL2.out k l m hlk hmk wr hb)
      have HS2 : Hid (T = if lkE nodes (pw.map PRow.l) (prevL lk k) l m = 0 then lkGo nodes (pw.map PRow.l) (prevL lk (k + 1)) (lk.drop (k + 1)) (mg.drop (k + 1)) else lkE nodes (pw.map PRow.l) (prevL lk k) l m) := Lib.hid (by
        rw [HS.out, drop_of_get hlk, drop_of_get hmk, prevL_succ hlk]
        rfl)
      obtain ⟨V, hV⟩ : ∃ V, V = lkE nodes (pw.map PRow.l) (prevL lk k) l m := ⟨_, rfl⟩
      rw [← hV] at HS2 Con
      have r1 := (HW.out _ hb).2
      unfold Row at r1
      clear HS hV hlk hmk
      go_wp2_with fail
      refine Con.out.mono ?_
      rintro e w4 ⟨rfl, hb4⟩
      have hB4 : Below W1.heap.size W1 w4 := hb.trans (hb4.mono hb.size)
      clear r1 Con
      by_cases hV0 : V = 0
      · have dv : (V != 0) = false := by simpa using hV0
        have hf := Lib.hid (show T = lkGo nodes (pw.map PRow.l) (prevL lk (k + 1)) (lk.drop (k + 1)) (mg.drop (k + 1)) by rw [HS2.out, if_pos hV0])
        clear HS2 hV0
        go_wp2_with fail
        go_roundw
        case rel => exact ⟨k + 1, by omega, by go_num, hB4, hf⟩
        case measure => simp [intOf]; omega
      · have dv : (V != 0) = true := by simpa using hV0
        have hf := Lib.hid (show T = V by rw [HS2.out, if_neg hV0])
        clear HS2 hV0
        go_wp2_with fail
        go_ret
        exact ⟨ret_int (by rw [hf.out]), (HW.out _ hB4).1⟩
    · have hf : Hid (T = 0) := Lib.hid (by rw [HS.out, List.drop_of_length_le (by rw [← HNl.out]; omega)]; rfl)
      go_wp2_with fail
      go_ret
      exact ⟨ret_int (by rw [hf.out]), (HW.out _ hb).1⟩
end Go.Proofs.YticnppnejafhdaaGreatDoor
/- Networks as abstract data; network.Check lifted. -/
namespace Go.Proofs.YticnppnejafhdaaGreatDoor
open Go.RowKit
open Nd Rc Mo
open Av
set_option maxRecDepth 100000

def Mo.Lk.pv (x : Lk) : List PV := [ip x.fr, ip x.tt, ip x.ls]
def irow_pv (x : Int) : List PV := [ip x]
def prow_pv (l : List Int) : List PV := [.sl 1 (l.map irow_pv)]
def Mo.Net.pv (n : Net) : List PV := [ip n.nodes, .sl 1 (n.pow.map prow_pv), ip n.noise, ip n.thr, .sl 3 (n.lk.map Lk.pv), .sl 1 (n.mg.map irow_pv)]
theorem ints_rep {w : World} {R : Reader} {l : List Int} {u : Value} (hR : ∀ p v, R p = some v → w.cell? p = some v) (h : RepP R (.sl 1 (l.map irow_pv)) u) : ∃ A c, u = .slice A l.length c ∧ LiesI w w.heap.size A l := by
  rw [map_pv (f := irow_pv) (g := irow) (fun _ => rfl)] at h
  obtain ⟨A, c, rfl, hA⟩ := lies_of_rep hR (by decide) h
  rw [List.length_map]
  exact ⟨A, c, rfl, hA⟩
theorem links_rep {w : World} {R : Reader} {l : List Lk} {u : Value} (hR : ∀ p v, R p = some v → w.cell? p = some v) (h : RepP R (.sl 3 (l.map Lk.pv)) u) : ∃ A c, u = .slice A l.length c ∧ Lies w w.heap.size 3 A (l.map Lk.row) := by
  rw [map_pv (f := Lk.pv) (g := Lk.row) (fun _ => rfl)] at h
  obtain ⟨A, c, rfl, hA⟩ := lies_of_rep hR (by decide) h
  rw [List.length_map]
  exact ⟨A, c, rfl, hA⟩
theorem prows {w : World} {B : Nat} : ∀ (pow : List (List Int)) (g : Nat → Value), (∀ k l, pow[k]? = some l → ∃ A c, g k = .slice A l.length c ∧ LiesI w B A l) → (∀ l ∈ pow, l.length ≤ 1000000) → ∃ pw : List PRow, pw.map PRow.l = pow ∧ (∀ k p, pw[k]? = some p → g k = .slice p.A p.l.length p.c) ∧ ∀ p ∈ pw, LiesI w B p.A p.l ∧ p.l.length ≤ 1000000
  | [], g, _, _ => ⟨[], rfl, fun k p h => by simp at h, fun p h => by cases h⟩
  | l :: pow, g, h, hl => by
    obtain ⟨A, c, h1, h2⟩ := h 0 l rfl
    obtain ⟨pw, h3, h4, h5⟩ := prows pow (fun k => g (k + 1)) (fun k l' hk => h (k + 1) l' (by simpa using hk)) (fun l' hl' => hl l' (List.mem_cons_of_mem _ hl'))
    refine ⟨⟨l, A, c⟩ :: pw, by rw [List.map_cons, h3], fun k p hk => ?_, fun p hp => ?_⟩
    · cases k with
      | zero => simp at hk; subst hk; exact h1
      | succ k => exact h4 k p (by simpa using hk)
    · rcases List.mem_cons.1 hp with rfl | hp
      · exact ⟨h2, hl l List.mem_cons_self⟩
      · exact h5 p hp
theorem pow_rep {w : World} {R : Reader} {pow : List (List Int)} {u : Value} (hR : ∀ p v, R p = some v → w.cell? p = some v) (hl : ∀ l ∈ pow, l.length ≤ 1000000) (h : RepP R (.sl 1 (pow.map prow_pv)) u) : ∃ A c pw, u = .slice A pow.length c ∧ pw.map PRow.l = pow ∧ LiesP w w.heap.size A pw := by
  generalize hrows : pow.map prow_pv = rows at h
  cases h with
  | sl _ _ A cap f hsz hA hf hc =>
    have hlen : rows.length = pow.length := by rw [← hrows]; simp
    have hget : ∀ k l, pow[k]? = some l → rows[k]? = some (prow_pv l) := fun k l hk => by rw [← hrows, List.getElem?_map, hk]; rfl
    obtain ⟨pw, h1, h2, h3⟩ := prows (w := w) (B := w.heap.size) pow (fun k => f k 0) (fun k l hk => ints_rep hR (hf k _ 0 _ (hget k l hk) rfl)) hl
    refine ⟨A, cap, pw, by rw [hlen], h1, fun hne => ?_, h3⟩
    rcases hA with h0 | ⟨b, off, rfl, hA⟩
    · exfalso
      apply hne
      rw [h0] at hlen
      have : pow = [] := List.eq_nil_of_length_eq_zero hlen.symm
      rw [this] at h1
      rw [List.map_eq_nil_iff.1 h1]; rfl
    · have hcell : ∀ (k : Nat) (row : List Value), (pw.map PRow.row)[k]? = some row → ∀ (j : Nat) (x : Value), row[j]? = some x → w.cell? ⟨b, off + k * 1 + j, none⟩ = some x := fun k row hk j x hj => by
        rw [List.getElem?_map] at hk
        obtain ⟨p, hp, rfl⟩ := Option.map_eq_some_iff.1 hk
        have hpl : pow[k]? = some p.l := by rw [← h1, List.getElem?_map, hp]; rfl
        cases j with
        | zero =>
          simp [PRow.row] at hj
          subst hj
          have := hA k _ 0 _ (hget k p.l hpl) rfl
          rw [h2 k p hp] at this
          exact hR _ _ this
        | succ j => simp [PRow.row] at hj
      refine ⟨b, off, rfl, ?_, hcell⟩
      cases hpw : pw with
      | nil => rw [hpw] at hne; exact absurd rfl hne
      | cons p pw' => exact Rel.cell_lt (hcell 0 p.row (by rw [hpw]; rfl) 0 _ rfl)
theorem net_rep {w : World} {R : Reader} {bx : Nat → Nat} {n : Net} {u : Value} (hR : ∀ p v, R p = some v → w.cell? p = some v) (hl : ∀ l ∈ n.pow, l.length ≤ 1000000) (h : RepA R bx (.agg n.pv) u) :
    ∃ P L G cp cl cg pw, u = .agg #[.int .i64 n.nodes, .slice P n.pow.length cp, .int .i64 n.noise, .int .i64 n.thr, .slice L n.lk.length cl, .slice G n.mg.length cg] ∧ pw.map PRow.l = n.pow ∧ LiesP w w.heap.size P pw ∧ Lies w w.heap.size 3 L (n.lk.map Lk.row) ∧ LiesI w w.heap.size G n.mg := by
  obtain ⟨us, rfl, h⟩ := h
  cases h with
  | cons h1 h =>
  cases h with
  | cons h2 h =>
  cases h with
  | cons h3 h =>
  cases h with
  | cons h4 h =>
  cases h with
  | cons h5 h =>
  cases h with
  | cons h6 h =>
    cases h
    cases h1
    cases h3
    cases h4
    obtain ⟨P, cp, pw, rfl, e1, e2⟩ := pow_rep hR hl h2
    obtain ⟨L, cl, rfl, e3⟩ := links_rep hR h5
    obtain ⟨G, cg, rfl, e4⟩ := ints_rep hR h6
    exact ⟨P, L, G, cp, cl, cg, pw, rfl, e1, e2, e3, e4⟩
theorem ncheck_ok (n : Net) (hp : n.pow.length ≤ 1000000) (hl : ∀ l ∈ n.pow, l.length ≤ 1000000) (hk : n.lk.length ≤ 1000000) (hg : n.mg.length ≤ 1000000) : FnOK Tryz.prog 55 [.agg n.pv] ⟨iv (chkN n), none⟩ := fn_of ⟨Tryz.f55, _, Tryz.func55, by kernel_rfl, rfl⟩ fun w R hR us hus => by
  cases hus with | cons h0 _ hus =>
  cases hus
  obtain ⟨P, L, G, cp, cl, cg, pw, rfl, e1, e2, e3, e4⟩ := net_rep hR hl h0
  have hlen : n.pow.length = pw.length := by rw [← e1, List.length_map]
  rw [hlen]
  refine (netCheck_any n.nodes n.noise n.thr pw n.lk n.mg P L G cp cl cg w e2 (by omega) e3 hk e4 hg).mono ?_
  rintro e w' ⟨rfl, hb⟩
  rw [e1]
  exact ⟨_, rfl, hb, res_v⟩
end Go.Proofs.YticnppnejafhdaaGreatDoor
/- Owned rows of structs: what the record layer's text DecP holds of them. -/
namespace Go.Proofs.YticnppnejafhdaaGreatDoor
open Go.RowKit
open Rc
theorem Blk.new' {w : World} {g : Nat} (t : TypeId) (cs : List Value) (h : g = w.heap.size) : Blk (w.alloc (.cells cs.toArray t)) g t cs := by rw [h]; exact Blk.new w t cs
theorem own_kept {w w' : World} {base : Nat} {e : TypeId} {size : Nat} {v : Value} {n : Nat} {xs : List Value} (h : w.ownsRow base e size v n xs) (hk : ∀ g cs, v.ownBlock = some g → Blk w g e cs → Blk w' g e cs) : w'.ownsRow base e size v n xs := by
  refine ⟨h.1, ?_⟩
  rcases h.2 with h0 | ⟨g, cap, cur, hv, hg, hh, h1, h2, h3, h4⟩
  · exact .inl h0
  · refine .inr ⟨g, cap, cur, hv, hg, ?_, h1, h2, h3, h4⟩
    have := hk g cur.toList (by rw [hv]; rfl) (by unfold Blk; simpa using hh)
    unfold Blk at this
    simpa using this
theorem Blk.grown_ {w w' : World} {g : Nat} {t : TypeId} {cs : List Value} {row : Option Nat} (h : Blk w g t cs) (hg : w.grownBy w' row) (hne : some g ≠ row) : Blk w' g t cs := (hg.block g h.lt hne).trans h
theorem Blk.news {w : World} {g : Nat} {t : TypeId} {cs : List Value} (h : Blk w g t cs) : ∀ j u, cs[j]? = some u → w.cell? ((⟨g, 0, none⟩ : Addr).add j) = some u := fun j u hu => by
  have e : (⟨g, 0, none⟩ : Addr).add j = ⟨g, j, none⟩ := by
    unfold Addr.add
    split
    · rename_i h; subst h; rfl
    · simp
  rw [e]; exact (h.row j).trans hu
theorem ints_one {l : List Int} : ∀ u ∈ l.map (Value.int .i64), u.oneCell' = true := fun u hu => by
  obtain ⟨z, _, rfl⟩ := List.mem_map.1 hu
  rfl

theorem own_form {w : World} {base : Nat} {e : TypeId} {size : Nat} {v : Value} {n : Nat} {xs : List Value} (h : w.ownsRow base e size v n xs) : ∃ A c, v = .slice A n c := by
  rcases h.2 with ⟨rfl, h0⟩ | ⟨g, cap, cur, rfl, _⟩
  · exact ⟨none, 0, by rw [h0]⟩
  · exact ⟨_, _, rfl⟩
def flatA (l : List Rc.Att) : List Value := l.flatMap Rc.Att.row
theorem row_len_A (a : Rc.Att) : a.row.length = 8 := rfl
theorem own_liesA {w : World} {base : Nat} {v : Value} {l : List Att} (h : w.ownsRow base 66 8 v l.length (flatA l)) : ∃ A c, v = .slice A l.length c ∧ LiesA w w.heap.size A l := by
  obtain ⟨A, c, e, h1, _⟩ := own_lies (f := Att.row) row_len_A h
  exact ⟨A, c, e, h1⟩
theorem own_A {w : World} {base n c : Nat} {A : Option Addr} {l : List Att} (h : w.ownsRow base 66 8 (.slice A n c) l.length (flatA l)) : LiesA w w.heap.size A l := by
  obtain ⟨A', c', e, h1⟩ := own_liesA h
  injection e with e _ _
  subst e
  exact h1
end Go.Proofs.YticnppnejafhdaaGreatDoor
/- Walk: Attempts of package record. -/
namespace Go.Proofs.YticnppnejafhdaaGreatDoor
open Go.RowKit
open Rc
theorem Tryz.infoAtt : (Tryz.prog.info? 66).map (fun i => (i.zero, i.size, i.bytes)) = some (some (.agg #[.int .i64 0, .int .i64 0, .int .i64 0, .int .i64 0, .int .i64 0, .int .i64 0, .int .i64 0, .int .i64 0]), 8, 64) := by kernel_rfl
/-- The attempts of a frame. -/
def ofFrame (l : List Att) (flow frame : Int) : List Att := l.filter fun a => a.cl == flow && a.f == frame

theorem own_weak {w : World} {base base' : Nat} {e : TypeId} {size : Nat} {v : Value} {n : Nat} {xs : List Value} (h : w.ownsRow base e size v n xs) (hb : base' ≤ base) : w.ownsRow base' e size v n xs := by
  obtain ⟨h1, h2⟩ := h
  refine ⟨h1, ?_⟩
  rcases h2 with h2 | ⟨g, cap, cur, e1, e2, e3⟩
  · exact Or.inl h2
  · exact Or.inr ⟨g, cap, cur, e1, Nat.le_trans hb e2, e3⟩
set_option maxRecDepth 100000 in
set_option maxHeartbeats 8000000 in
theorem attempts2_any (r : Rec) (A D : Option Addr) (ca cd : Nat) (flow frame : Int) (w : World) (hA : LiesA w w.heap.size A r.al) (hla : r.al.length ≤ 1000000) :
    Calls Tryz.prog 73 #[.agg #[.int .i64 r.slots, .slice A r.al.length ca, .slice D r.dl.length cd], .int .i64 flow, .int .i64 frame] w fun e w' => Below w.heap.size w w' ∧ ∃ va, e = .returned va ∧ w'.ownsRow w.heap.size 66 8 va (ofFrame r.al flow frame).length (flatA (ofFrame r.al flow frame)) := by
  obtain ⟨slots, al, dl⟩ := r
  dsimp only at *
  obtain ⟨na, hna⟩ : ∃ n, n = al.length := ⟨_, rfl⟩
  obtain ⟨nd, hnd⟩ : ∃ n, n = dl.length := ⟨_, rfl⟩
  rw [← hna, ← hnd]
  rw [← hna] at hla
  have HA := Lib.hid hna
  clear hna hnd
  obtain ⟨F, hF⟩ : ∃ F, F = ofFrame al flow frame := ⟨_, rfl⟩
  rw [← hF]
  have HF := Lib.hid hF
  clear hF
  obtain ⟨i0, hi, hz0, hz1, hz2⟩ := info_parts Tryz.infoAtt
  go_enter Tryz.func73, Tryz.ntmps73
  go_wp2_with fail
  generalize hW0 : World.alloc _ _ = W0
  have bR : Blk W0 w.heap.size 35 [.int .i64 slots, .slice A na ca, .slice D nd cd] := by rw [← hW0]; exact Blk.new' _ [.int .i64 slots, .slice A na ca, .slice D nd cd] rfl
  have hb0 : Below w.heap.size w W0 := by rw [← hW0]; exact (Below.refl _ _).alloc (Nat.le_refl _) _
  clear hW0
  obtain ⟨N, hN⟩ : ∃ N, N = w.heap.size := ⟨_, rfl⟩
  rw [← hN] at bR hb0 ⊢
  have hA' : LiesA w N A al := by rw [hN]; exact hA
  have HN := Lib.hid hN
  clear hN hA
  go_loopw [7, 14] (fun s7 i wr => ∃ (k : Nat) (acc : List Att) (va : Value), va = s7 ∧ k ≤ na ∧ i = .int .i64 k ∧ acc.length ≤ k ∧ wr.ownsRow (N + 1) 66 8 va acc.length (flatA acc) ∧ Below N w wr ∧ N + 1 ≤ wr.heap.size ∧ Hid (F = acc ++ ofFrame (al.drop k) flow frame)) (fun _ i _ => na - (intOf i).toNat)
  case atStart => exact ⟨0, [], _, rfl, Nat.zero_le _, rfl, Nat.le_refl _, World.ownsRow_nil _ _ _ _, hb0, bR.lt, Lib.hid (by rw [HF.out]; simp)⟩
  case round =>
    obtain ⟨k, acc, va, rfl, hk, rfl, hal, hown, hb, hMw, hst⟩ := hrel
    by_cases hlt : k < na
    · obtain ⟨a, ha⟩ := get_of_lt (l := al) (k := k) (by rw [← HA.out]; exact hlt)
      obtain ⟨b, off, rfl, hbB, hcs⟩ := (hA'.below hb).at_ ha
      obtain ⟨c0, c1, c2, c3, c4, c5, c6, c7⟩ := hcs k a ha
      have hd := Lib.hid (drop_of_get ha)
      have hvl : ∀ g, va.ownBlock = some g → N + 1 ≤ g ∧ g < wr.heap.size := hown.lt
      have HV := Lib.hid hvl
      clear hcs ha hvl
      go_upto_region 5 with fail
      generalize hW1 : wr.alloc _ = W1
      have ba : Blk W1 wr.heap.size 66 [.int .i64 a.s, .int .i64 a.f, .int .i64 a.cs, .int .i64 a.co, .int .i64 a.cf, .int .i64 a.ct, .int .i64 a.cl, .int .i64 a.o] := by rw [← hW1]; exact Blk.new' _ [.int .i64 a.s, .int .i64 a.f, .int .i64 a.cs, .int .i64 a.co, .int .i64 a.cf, .int .i64 a.ct, .int .i64 a.cl, .int .i64 a.o] rfl
      have hb1 : Below N w W1 := by rw [← hW1]; exact hb.alloc (by omega) _
      have hsz : wr.heap.size + 1 ≤ W1.heap.size := by rw [← hW1]; simp
      have hown1 : W1.ownsRow (N + 1) 66 8 va acc.length (flatA acc) := by rw [← hW1]; exact hown.alloc _
      have ca := ba.row
      unfold Row at ca
      clear hW1 c0 c1 c2 c3 c4 c5 c6 c7 hown
      by_cases hm : a.cl = flow ∧ a.f = frame
      · obtain ⟨h1, h2⟩ := hm
        have e1 : (a.cl == flow) = true := by simp [h1]
        have e2 : (a.f == frame) = true := by simp [h2]
        have hst' : Hid (F = (acc ++ [a]) ++ ofFrame (al.drop (k + 1)) flow frame) := Lib.hid (by rw [hst.out, hd.out]; simp [ofFrame, h1, h2])
        have HO := Lib.hid hown1
        clear hown1 hst h1 h2
        go_wp2_with (at_builtin; refine wpList_append_own_at _ rfl (.tmp 29) (.tmp 31) 30 rfl (N + 1) 66 i0 (.agg #[.int .i64 0, .int .i64 0, .int .i64 0, .int .i64 0, .int .i64 0, .int .i64 0, .int .i64 0, .int .i64 0]) 8 64 Tryz.underlying30 hi hz0 hz1 hz2 rfl (by decide) va acc.length (flatA acc) rfl (HO.out.alloc _) ⟨W1.heap.size, 0, none⟩ 1 1 [.int .i64 a.s, .int .i64 a.f, .int .i64 a.cs, .int .i64 a.co, .int .i64 a.cf, .int .i64 a.ct, .int .i64 a.cl, .int .i64 a.o] rfl rfl ?e0 ?e1 ?e2 ?e3 ?e4 ?_)
        case e0 => exact (Blk.new' 66 [.int .i64 a.s, .int .i64 a.f, .int .i64 a.cs, .int .i64 a.co, .int .i64 a.cf, .int .i64 a.ct, .int .i64 a.cl, .int .i64 a.o] rfl).news
        case e1 => exact ints_one (l := [a.s, a.f, a.cs, a.co, a.cf, a.ct, a.cl, a.o])
        case e2 => unfold maxLen; omega
        case e3 => omega
        case e4 => simp; omega
        intro v3 w3 ho3 hg3 hnil3 hat3
        clear hnil3 hat3
        have hb3 : Below N w w3 := (hb1.alloc (by omega) _).grown hg3 (by simp; omega) (by intro g hg; have := HV.out g hg; omega)
        have hz3 : N + 1 ≤ w3.heap.size := by have := hg3.size; simp at this; omega
        have O3 : w3.ownsRow (N + 1) 66 8 v3 (acc ++ [a]).length (flatA (acc ++ [a])) := by simpa [flatA, Att.row] using ho3
        obtain ⟨A3, c3, hv3⟩ := own_form ho3
        clear ho3 hg3 HO
        subst hv3
        go_wp2_with fail
        go_roundw
        case rel => exact ⟨k + 1, acc ++ [a], _, rfl, by omega, by go_num, by simp; omega, O3, hb3, hz3, hst'⟩
        case measure => simp [intOf]; omega
      · have hst' : Hid (F = acc ++ ofFrame (al.drop (k + 1)) flow frame) := Lib.hid (by
          rw [hst.out, hd.out]
          have : (a.cl == flow && a.f == frame) = false := by
            rw [Bool.eq_false_iff]
            intro h
            simp at h
            exact hm h
          simp only [ofFrame, List.filter_cons, this, Bool.false_eq_true, if_false])
        clear hst
        by_cases h1 : a.cl = flow
        · have h2 : ¬ a.f = frame := fun h => hm ⟨h1, h⟩
          have e1 : (a.cl == flow) = true := by simp [h1]
          have e2 : (a.f == frame) = false := by simp [h2]
          go_wp2_with fail
          go_roundw
          case rel => exact ⟨k + 1, acc, _, rfl, by omega, by go_num, by omega, hown1, hb1, by omega, hst'⟩
          case measure => simp [intOf]; omega
        · have e1 : (a.cl == flow) = false := by simp [h1]
          go_wp2_with fail
          go_roundw
          case rel => exact ⟨k + 1, acc, _, rfl, by omega, by go_num, by omega, hown1, hb1, by omega, hst'⟩
          case measure => simp [intOf]; omega
    · have hst' : Hid (F = acc) := Lib.hid (by rw [hst.out, List.drop_of_length_le (by rw [← HA.out]; omega)]; simp [ofFrame])
      obtain ⟨A3, c3, hv3⟩ := own_form hown
      have HO := Lib.hid hown
      clear hst hown
      subst hv3
      go_wp2_with fail
      go_ret
      exact ⟨by rw [← HN.out]; exact hb, _, rfl, by rw [hst'.out, ← HN.out]; exact own_weak HO.out (by omega)⟩

end Go.Proofs.YticnppnejafhdaaGreatDoor
/- Explanations, and what the layer computes with them: plain. -/
namespace Go.Proofs.YticnppnejafhdaaGreatDoor
open Go.RowKit
open Nd Rc Mo
open Av
structure Br where
  fl : Int
  fr : Int
  fm : Int
  tt : Int
  sl : List Int
deriving DecidableEq
def Br.pv (b : Br) : List PV := [ip b.fl, ip b.fr, ip b.fm, ip b.tt, .sl 1 (b.sl.map fun x => [ip x])]
structure Ex where
  lt : Lt
  ca : List Br
deriving DecidableEq
def Ex.pv (x : Ex) : List PV := [ip x.lt.fl, ip x.lt.fr, ip x.lt.sl, .sl 5 (x.ca.map Br.pv)]
def lt0 : Lt := ⟨0, 0, 0⟩
def ex0 : Ex := ⟨lt0, []⟩

/-- The fault of a flow among some nodes. -/
def faultN (nodes : Int) (f : Fl) : Int :=
  if f.id < 0 ∨ 255 < f.id ∨ f.fr < 0 ∨ nodes ≤ f.fr ∨ f.tn < 0 ∨ nodes ≤ f.tn ∨ f.pe < 1 ∨ 512 < f.pe ∨ f.ph < 0 ∨ f.pe ≤ f.ph ∨ f.dl < 1 ∨ f.pe < f.dl then 2 else if f.fr = f.tn then 1 else 0
def chkF1 (nodes : Int) (f : Fl) : Int × Int := if nodes < 2 ∨ 32 < nodes then (-1, 2) else if faultN nodes f = 0 then (-1, 0) else (0, faultN nodes f)
theorem fault_of_N {nodes : Int} {f : Fl} (hn : nodes ≤ 32) (h : faultN nodes f = 0) : fault f = 0 ∧ 0 ≤ f.fr ∧ f.fr < nodes ∧ 0 ≤ f.tn ∧ f.tn < nodes ∧ f.fr ≠ f.tn := by
  unfold faultN at h
  split at h
  · cases h
  · rename_i hb
    split at h
    · cases h
    · rename_i hne
      refine ⟨?_, by omega, by omega, by omega, by omega, hne⟩
      unfold fault
      rw [if_pos, if_neg hne]
      simp only [boundsB, Nd.inB, Bool.and_eq_true, decide_eq_true_eq]
      omega
def basicB (n : Net) (f : Fl) (r : Rec) : Bool := decide (chkN n = 0) && good r && decide ((chkF1 n.nodes f).2 = 0)
theorem basicB_inv {n : Net} {f : Fl} {r : Rec} (h : basicB n f r = true) : chkN n = 0 ∧ good r = true ∧ (2 ≤ n.nodes ∧ n.nodes ≤ 32) ∧ faultN n.nodes f = 0 ∧ fault f = 0 := by
  unfold basicB at h
  rw [Bool.and_eq_true, Bool.and_eq_true, decide_eq_true_eq, decide_eq_true_eq] at h
  obtain ⟨⟨h1, h2⟩, h3⟩ := h
  have hn : 2 ≤ n.nodes ∧ n.nodes ≤ 32 := by
    unfold chkN at h1
    split at h1
    · cases h1
    · omega
  unfold chkF1 at h3
  split at h3
  · cases h3
  · split at h3
    · rename_i h4
      exact ⟨h1, h2, hn, h4, (fault_of_N hn.2 h4).1⟩
    · rename_i h4
      exact absurd h3 h4

def lkP (a b : Int) (l : Lk) : Bool := l.fr == a && l.tt == b
/-- The place of a link, or -1. -/
def idxL (n : Net) (a b : Int) : Int := idxP (lkP a b) n.lk 0
def heardB (n : Net) (s : Int) : Bool := decide (n.thr * (n.noise + 0) ≤ s * 1000)
/-- Is there a usable link? -/
def goodL (n : Net) (a b : Int) : Bool := decide (0 ≤ idxL n a b) && (decide (0 ≤ idxL n b a) && (heardB n (n.mg.getD (idxL n a b).toNat 0) && heardB n (n.mg.getD (idxL n b a).toNat 0)))
def outN (n : Net) (x : Int) : Bool := decide (x < 0) || decide (n.nodes ≤ x)
def dupAt (p : List Int) (i : Nat) : Bool := (p.take i).any fun y => p.getD i 0 == y
def dupB (p : List Int) : Bool := (List.range p.length).any (dupAt p)
def gapAt (n : Net) (p : List Int) (i : Nat) : Bool := !goodL n (p.getD i 0) (p.getD (i + 1) 0)
def gapB (n : Net) (p : List Int) : Bool := (List.range (p.length - 1)).any (gapAt n p)
/-- The fault of a route. -/
def routeE (n : Net) (a b : Int) (p : List Int) : Int :=
  if p.length < 2 then 9 else if 9 < p.length then 8 else if p.any (outN n) = true then 2 else if p.getD 0 0 ≠ a ∨ p.getD (p.length - 1) 0 ≠ b then 11
  else if dupB p = true then 6 else if gapB n p = true then 17 else 0

/-- The attempts of a frame on a link. -/
def onLk (al : List Att) (fl fr a b : Int) : List Att := (ofFrame al fl fr).filter fun x => x.cf == a && x.ct == b
def failB (lo hi : Int) (a : Att) : Bool := !(a.o == 1) && (decide (lo ≤ a.s) && decide (a.s ≤ hi))
/-- The causes that begin at the first k attempts. -/
def causeAt (f : Fl) (fr a b lo hi : Int) (need : Nat) (l : List Att) (i : Nat) : List Br := if ((l.drop i).take need).all (failB lo hi) = true then [⟨f.id, fr, a, b, ((l.drop i).take need).map Att.s⟩] else []
def causesK (f : Fl) (fr a b lo hi : Int) (need : Nat) (l : List Att) (k : Nat) : List Br := (List.range k).flatMap (causeAt f fr a b lo hi need l)
def lossL (n : Net) (a b : Int) : Int := (n.lk.getD (idxL n a b).toNat ⟨0, 0, 0⟩).ls
def causesX (n : Net) (f : Fl) (r : Rec) (fr a b : Int) : List Br :=
  causesK f fr a b (rel f fr) (rel f fr + f.dl - 1) ((lossL n a b).toNat + 1) (onLk r.al f.id fr a b) ((onLk r.al f.id fr a b).length - (lossL n a b).toNat)
theorem causesK_succ (f : Fl) (fr a b lo hi : Int) (need : Nat) (l : List Att) (k : Nat) : causesK f fr a b lo hi need l (k + 1) = causesK f fr a b lo hi need l k ++ causeAt f fr a b lo hi need l k := by
  unfold causesK
  rw [List.range_succ, List.flatMap_append]
  simp
theorem causesK_len (f : Fl) (fr a b lo hi : Int) (need : Nat) (l : List Att) (k : Nat) : (causesK f fr a b lo hi need l k).length ≤ k := by
  induction k with
  | zero => exact Nat.le_refl _
  | succ k ih =>
    rw [causesK_succ, List.length_append]
    have : (causeAt f fr a b lo hi need l k).length ≤ 1 := by unfold causeAt; split <;> simp
    omega
def causesR (n : Net) (f : Fl) (r : Rec) (fr a b : Int) : List Br × Int :=
  if basicB n f r = false then ([], 1) else if fr < 0 ∨ 1048576 ≤ fr then ([], 2) else if idxL n a b < 0 then ([], 7) else (causesX n f r fr a b, 0)

/-- The late frame of a case. -/
def lateX (n : Net) (f : Fl) (ps : List (List Int)) (r : Rec) (fr : Int) : Lt × Int :=
  if basicB n f r = false ∨ ps.length < 1 ∨ 2 < ps.length then (lt0, 1) else if ps.any (fun p => !(routeE n f.fr f.tn p == 0)) = true then (lt0, 1)
  else match (late [f] r).1.find? (fun x => x.fr == fr) with
    | none => (lt0, 12)
    | some x => (x, 0)
/-- The first cause on a route, from its k-th link on. -/
def firstC (n : Net) (f : Fl) (r : Rec) (fr : Int) : List Int → Option Br
  | a :: b :: p => match (causesX n f r fr a b).head? with
    | some c => some c
    | none => firstC n f r fr (b :: p)
  | _ => none
def findX (n : Net) (f : Fl) (ps : List (List Int)) (r : Rec) (fr : Int) : Ex × Int :=
  if (lateX n f ps r fr).2 ≠ 0 then (ex0, (lateX n f ps r fr).2) else if ps.any (fun p => (firstC n f r fr p).isNone) = true then (ex0, 7) else (⟨(lateX n f ps r fr).1, ps.filterMap (firstC n f r fr)⟩, 0)
def onB : List Int → Int → Int → Bool
  | a :: b :: p, x, y => (a == x && b == y) || onB (b :: p) x y
  | _, _, _ => false
def okC (n : Net) (f : Fl) (r : Rec) (fr : Int) (p : List Int) (c : Br) : Bool := onB p c.fm c.tt && (causesX n f r fr c.fm c.tt).contains c
def checkX (n : Net) (f : Fl) (ps : List (List Int)) (r : Rec) (x : Ex) : Int :=
  if (lateX n f ps r x.lt.fr).2 ≠ 0 then (lateX n f ps r x.lt.fr).2 else if (lateX n f ps r x.lt.fr).1 ≠ x.lt ∨ x.ca.length ≠ ps.length then 20
  else if (List.zip ps x.ca).all (fun q => okC n f r x.lt.fr q.1 q.2) = true then 0 else 20
end Go.Proofs.YticnppnejafhdaaGreatDoor
/- Plain facts about late frames and routes. -/
namespace Go.Proofs.YticnppnejafhdaaGreatDoor
open Go.RowKit
open Nd Rc Mo
open Av
theorem find_idx {α : Type} (p : α → Bool) : ∀ (l : List α) (k : Int), (l.find? p = none ∧ idxP p l k = -1) ∨ ∃ (i : Nat) (x : α), l[i]? = some x ∧ l.find? p = some x ∧ idxP p l k = k + (i : Int) ∧ p x = true
  | [], _ => .inl ⟨rfl, rfl⟩
  | a :: l, k => by
    by_cases h : p a = true
    · exact .inr ⟨0, a, rfl, by rw [List.find?_cons_of_pos h], by rw [idxP, if_pos h]; simp, h⟩
    · rcases find_idx p l (k + 1) with ⟨h1, h2⟩ | ⟨i, x, h1, h2, h3, h4⟩
      · exact .inl ⟨by rw [List.find?_cons_of_neg (by simpa using h), h1], by rw [idxP, if_neg h, h2]⟩
      · exact .inr ⟨i + 1, x, by simpa using h1, by rw [List.find?_cons_of_neg (by simpa using h), h2], by rw [idxP, if_neg h, h3]; push_cast; omega, h4⟩
theorem right_invX {fs : List Fl} {r : Rec} (h : right fs r = true) : (∀ f ∈ fs, fault f = 0) ∧ fs.length ≤ 1000000 ∧ good r = true ∧ r.slots ≤ 4096 := by
  simp only [right, Bool.and_eq_true, decide_eq_true_eq] at h
  obtain ⟨h1, _, h3⟩ := chkF_ok h.1
  have h4 : r.slots ≤ 4096 := by
    have := h.2
    simp only [good, Bool.and_eq_true, decide_eq_true_eq] at this
    omega
  exact ⟨h1, by omega, h.2, h4⟩
theorem late_boundX (fs : List Fl) (r : Rec) : (late fs r).1.length ≤ 1000000 := by
  unfold late
  split
  · rename_i h
    simp only [right, Bool.and_eq_true, decide_eq_true_eq] at h
    obtain ⟨h1, _, h3⟩ := chkF_ok h.1
    have h4 : r.slots ≤ 4096 := by
      have := h.2
      simp only [good, Bool.and_eq_true, decide_eq_true_eq] at this
      omega
    have := late_len h4 fs h1
    dsimp only
    omega
  · exact Nat.zero_le _
theorem late_memX {f : Fl} {r : Rec} {x : Lt} (hx : x ∈ (late [f] r).1) : x.fl = f.id ∧ 0 ≤ x.fr ∧ x.fr < 1048576 := by
  unfold late at hx
  split at hx
  · rename_i h
    obtain ⟨h1, _, _, h4⟩ := right_invX h
    obtain ⟨g, hg, hx1⟩ := List.mem_flatMap.1 hx
    obtain rfl : g = f := by simpa using hg
    obtain ⟨n, hn, hx2⟩ := List.mem_flatMap.1 hx1
    clear hx
    have hx := hx2
    have hc := complete_bounds (h1 _ hg) h4
    have hn' := List.mem_range.1 hn
    unfold lateN at hx
    split at hx
    · cases hx
    · obtain rfl := List.mem_singleton.1 hx
      refine ⟨rfl, ?_, ?_⟩
      · show (0 : Int) ≤ (n : Int); omega
      · show (n : Int) < 1048576; omega
  · cases hx
structure LateOK (n : Net) (f : Fl) (ps : List (List Int)) (r : Rec) (fr : Int) : Prop where
  base : basicB n f r = true
  l1 : 1 ≤ ps.length
  l2 : ps.length ≤ 2
  rt : ∀ p ∈ ps, routeE n f.fr f.tn p = 0
  fr0 : 0 ≤ fr
  fr1 : fr < 1048576
  mem : (lateX n f ps r fr).1 ∈ (late [f] r).1
  id : (lateX n f ps r fr).1.fl = f.id
  num : (lateX n f ps r fr).1.fr = fr
theorem lateX_ok {n : Net} {f : Fl} {ps : List (List Int)} {r : Rec} {fr : Int} (h : (lateX n f ps r fr).2 = 0) : LateOK n f ps r fr := by
  have key : ∀ x : Lt × Int, x = lateX n f ps r fr → x.2 = 0 → LateOK n f ps r fr := by
    intro x hx h0
    unfold lateX at hx
    split at hx
    · subst hx; cases h0
    rename_i h1
    split at hx
    · subst hx; cases h0
    rename_i h2
    split at hx
    · subst hx; cases h0
    rename_i y hy
    have hL : lateX n f ps r fr = (y, 0) := by unfold lateX; rw [if_neg h1, if_neg h2, hy]
    have hmem := List.mem_of_find?_eq_some hy
    have hfr : y.fr = fr := by have := List.find?_some hy; simpa using this
    have hq := late_memX hmem
    have hps : ¬ (ps.length < 1) ∧ ¬ (2 < ps.length) := ⟨fun h => h1 (.inr (.inl h)), fun h => h1 (.inr (.inr h))⟩
    refine ⟨?_, by omega, by omega, fun p hp => ?_, by omega, by omega, by rw [hL]; exact hmem, by rw [hL]; exact hq.1, by rw [hL]; exact hfr⟩
    · cases hb : basicB n f r with
      | true => rfl
      | false => exact absurd (.inl hb) h1
    · refine Classical.byContradiction fun hne => h2 (List.any_eq_true.2 ⟨p, hp, ?_⟩)
      simpa using hne
  exact key _ rfl h
theorem route_inv {n : Net} {a b : Int} {p : List Int} (h : routeE n a b p = 0) : 2 ≤ p.length ∧ p.length ≤ 9 ∧ ∀ (i : Nat) (x y : Int), p[i]? = some x → p[i + 1]? = some y → 0 ≤ idxL n x y := by
  unfold routeE at h
  split at h
  · cases h
  rename_i h1
  split at h
  · cases h
  rename_i h2
  split at h
  · cases h
  split at h
  · cases h
  split at h
  · cases h
  split at h
  · cases h
  rename_i h6
  refine ⟨by omega, by omega, fun i x y hx hy => ?_⟩
  have hi := (List.getElem?_eq_some_iff.1 hy).1
  have hg : gapAt n p i = false := by
    cases hq : gapAt n p i with
    | false => rfl
    | true => exact absurd (List.any_eq_true.2 ⟨i, List.mem_range.2 (by omega), hq⟩) h6
  unfold gapAt goodL at hg
  rw [List.getD_eq_getElem?_getD, List.getD_eq_getElem?_getD, hx, hy] at hg
  simp only [Option.getD_some, Bool.not_eq_false', Bool.and_eq_true, decide_eq_true_eq] at hg
  exact hg.1
end Go.Proofs.YticnppnejafhdaaGreatDoor
/- Plain facts about what a check of an explanation asks. -/
namespace Go.Proofs.YticnppnejafhdaaGreatDoor
open Go.RowKit
open Nd Rc Mo
open Av

theorem att_len (al : List Att) (fl fr a b : Int) : (onLk al fl fr a b).length ≤ al.length := by
  unfold onLk ofFrame
  exact Nat.le_trans (List.length_filter_le _ _) (List.length_filter_le _ _)

theorem onB_iff {x y : Int} : ∀ {p : List Int}, onB p x y = true ↔ ∃ i : Nat, p[i]? = some x ∧ p[i + 1]? = some y
  | [] => by simp [onB]
  | [a] => by simp [onB]
  | a :: b :: p => by
    rw [onB, Bool.or_eq_true, Bool.and_eq_true, beq_iff_eq, beq_iff_eq, onB_iff]
    constructor
    · rintro (⟨rfl, rfl⟩ | ⟨i, h1, h2⟩)
      · exact ⟨0, rfl, rfl⟩
      · exact ⟨i + 1, h1, h2⟩
    · rintro ⟨i, h1, h2⟩
      cases i with
      | zero => simp at h1 h2; exact .inl ⟨h1, h2⟩
      | succ i => exact .inr ⟨i, by simpa using h1, by simpa using h2⟩
theorem dup_lt {p : List Int} (h : dupB p = false) {i j : Nat} {x : Int} (hi : p[i]? = some x) (hj : p[j]? = some x) : ¬ j < i := by
  intro hlt
  have : dupB p = true := by
    refine List.any_eq_true.2 ⟨i, List.mem_range.2 (List.getElem?_eq_some_iff.1 hi).1, ?_⟩
    unfold dupAt
    refine List.any_eq_true.2 ⟨x, List.mem_of_getElem? (i := j) (by rw [List.getElem?_take_of_lt hlt, hj]), ?_⟩
    rw [List.getD_eq_getElem?_getD, hi]
    simp
  rw [h] at this
  cases this
theorem route_dup {n : Net} {a b : Int} {p : List Int} (h : routeE n a b p = 0) : dupB p = false := by
  cases hq : dupB p with
  | false => rfl
  | true =>
    exfalso
    unfold routeE at h
    rw [if_pos hq] at h
    split at h
    · cases h
    split at h
    · cases h
    split at h
    · cases h
    split at h
    · cases h
    cases h
theorem onB_at {n : Net} {a b : Int} {p : List Int} (h : routeE n a b p = 0) {i : Nat} {x y : Int} (hi : p[i]? = some x) : onB p x y = true ↔ p[i + 1]? = some y := by
  rw [onB_iff]
  constructor
  · rintro ⟨j, h1, h2⟩
    have g1 := dup_lt (route_dup h) hi h1
    have g2 := dup_lt (route_dup h) h1 hi
    obtain rfl : j = i := by omega
    exact h2
  · exact fun h2 => ⟨i, hi, h2⟩
theorem mem_causesX {n : Net} {f : Fl} {r : Rec} {fr a b : Int} {y : Br} (h : y ∈ causesX n f r fr a b) : y = ⟨f.id, fr, a, b, y.sl⟩ := by
  unfold causesX causesK at h
  obtain ⟨i, _, h⟩ := List.mem_flatMap.1 h
  unfold causeAt at h
  split at h
  · rw [List.mem_singleton.1 h]
  · cases h
theorem causesX_len {n : Net} {f : Fl} {r : Rec} {fr a b : Int} : (causesX n f r fr a b).length ≤ r.al.length := by
  unfold causesX
  refine Nat.le_trans (causesK_len _ _ _ _ _ _ _ _ _) ?_
  have := att_len r.al f.id fr a b
  omega
theorem contains_X {n : Net} {f : Fl} {r : Rec} {fr : Int} {c : Br} : (causesX n f r fr c.fm c.tt).contains c = (c.fl == f.id && (c.fr == fr && (causesX n f r fr c.fm c.tt).any fun y => decide (y.sl = c.sl))) := by
  rw [Bool.eq_iff_iff, List.contains_iff_mem, Bool.and_eq_true, Bool.and_eq_true, beq_iff_eq, beq_iff_eq, List.any_eq_true]
  constructor
  · intro h
    have h1 := mem_causesX h
    refine ⟨by rw [h1], by rw [h1], c, h, by simp⟩
  · rintro ⟨h1, h2, y, hy, h3⟩
    have h4 := mem_causesX hy
    have h5 : y = c := by
      rw [h4, ← h1, ← h2, of_decide_eq_true h3]
    rw [← h5, h5] at hy
    exact hy
theorem zip_all {α β : Type} {q : α × β → Bool} {l : List α} {m : List β} (h : ∀ (j : Nat) x y, l[j]? = some x → m[j]? = some y → q (x, y) = true) : (List.zip l m).all q = true := by
  rw [List.all_eq_true]
  rintro ⟨x, y⟩ hz
  obtain ⟨j, hj⟩ := List.mem_iff_getElem?.1 hz
  rw [List.getElem?_zip_eq_some] at hj
  exact h j x y hj.1 hj.2
theorem zip_not {α β : Type} {q : α × β → Bool} {l : List α} {m : List β} {j : Nat} {x : α} {y : β} (hx : l[j]? = some x) (hy : m[j]? = some y) (h : q (x, y) = false) : (List.zip l m).all q = false := by
  rw [Bool.eq_false_iff]
  intro h2
  have : (x, y) ∈ List.zip l m := List.mem_of_getElem? (i := j) (List.getElem?_zip_eq_some.2 ⟨hx, hy⟩)
  rw [List.all_eq_true] at h2
  rw [h2 _ this] at h
  cases h

theorem sl_len {n : Net} {f : Fl} {r : Rec} {fr a b : Int} {y : Br} (h : y ∈ causesX n f r fr a b) : y.sl.length ≤ r.al.length := by
  have hl := att_len r.al f.id fr a b
  unfold causesX causesK at h
  obtain ⟨i, _, h⟩ := List.mem_flatMap.1 h
  unfold causeAt at h
  split at h
  · rw [List.mem_singleton.1 h]
    simp only [List.length_map, List.length_take, List.length_drop]
    omega
  · cases h
end Go.Proofs.YticnppnejafhdaaGreatDoor
/- Sizes and zero values of types. -/
namespace Go.Proofs.YticnppnejafhdaaGreatDoor
open Go.RowKit
open Nd Rc Mo
open Av
set_option maxRecDepth 100000
set_option linter.unusedSimpArgs false
theorem all_arr {α : Type} {l : List α} {p : α → Bool} {n : Nat} (h : n = l.length) : l.toArray.all p 0 n = l.all p := by subst h; simp
theorem loc_ss (a b : Nat) : (Loc.s a == Loc.s b) = (a == b) := by rw [Bool.eq_iff_iff, beq_iff_eq, beq_iff_eq, Loc.s.injEq]
theorem loc_sb (a b c : Nat) : (Loc.s a == Loc.b b c) = false := by rw [beq_eq_false_iff_ne]; exact fun h => by cases h
theorem loc_bs (a b c : Nat) : (Loc.b b c == Loc.s a) = false := by rw [beq_eq_false_iff_ne]; exact fun h => by cases h
theorem loc_bb (a b c d : Nat) : (Loc.b a b == Loc.b c d) = (a == c && b == d) := by rw [Bool.eq_iff_iff, Bool.and_eq_true, beq_iff_eq, beq_iff_eq, beq_iff_eq, Loc.b.injEq]
theorem arr_two {α : Type} (a b c : α) : ((#[a, b] : Array α) = #[c]) = False := eq_false fun h => by have := congrArg Array.size h; simp at this
theorem rg1 : List.range 1 = [0] := by decide
theorem rg2 : List.range 2 = [0, 1] := by decide
theorem rg3 : List.range 3 = [0, 1, 2] := by decide
theorem rg4 : List.range 4 = [0, 1, 2, 3] := by decide
theorem rg5 : List.range 5 = [0, 1, 2, 3, 4] := by decide
theorem rg6 : List.range 6 = [0, 1, 2, 3, 4, 5] := by decide
theorem rg7 : List.range 7 = [0, 1, 2, 3, 4, 5, 6] := by decide
theorem rg8 : List.range 8 = [0, 1, 2, 3, 4, 5, 6, 7] := by decide
theorem arr_one {α : Type} (a b : α) : ((#[a] : Array α) = #[b]) = (a = b) := by simp
theorem Tryz.sz3 : (Tryz.prog.info? 3).map (·.size) = some 1 := by kernel_rfl
theorem Tryz.zr3 : (Tryz.prog.info? 3).map (·.zero) = some (some (.int .i64 0)) := by kernel_rfl
theorem Tryz.pl3 (k : Nat) : (Tryz.prog.info? 3).map (fun t => (k, t.size)) = some (k, 1) := by
  have h := Tryz.sz3
  cases hi : Tryz.prog.info? 3 with
  | none => rw [hi] at h; cases h
  | some i => rw [hi] at h; simp only [Option.map_some, Option.some.injEq] at h ⊢; rw [h]
theorem Tryz.is3 : (Tryz.prog.info? 3).isSome = true := by kernel_rfl
theorem Tryz.by3 : (Tryz.prog.info? 3).map (fun j => decide (j.bytes ≤ 1000000)) = some true := by kernel_rfl
theorem Tryz.sz4 : (Tryz.prog.info? 4).map (·.size) = some 1 := by kernel_rfl
theorem Tryz.zr4 : (Tryz.prog.info? 4).map (·.zero) = some (some (.bool false)) := by kernel_rfl
theorem Tryz.pl4 (k : Nat) : (Tryz.prog.info? 4).map (fun t => (k, t.size)) = some (k, 1) := by
  have h := Tryz.sz4
  cases hi : Tryz.prog.info? 4 with
  | none => rw [hi] at h; cases h
  | some i => rw [hi] at h; simp only [Option.map_some, Option.some.injEq] at h ⊢; rw [h]
theorem Tryz.is4 : (Tryz.prog.info? 4).isSome = true := by kernel_rfl
theorem Tryz.by4 : (Tryz.prog.info? 4).map (fun j => decide (j.bytes ≤ 1000000)) = some true := by kernel_rfl
theorem Tryz.sz43 : (Tryz.prog.info? 43).map (·.size) = some 1 := by kernel_rfl
theorem Tryz.zr43 : (Tryz.prog.info? 43).map (·.zero) = some (some (.int .i64 0)) := by kernel_rfl
theorem Tryz.pl43 (k : Nat) : (Tryz.prog.info? 43).map (fun t => (k, t.size)) = some (k, 1) := by
  have h := Tryz.sz43
  cases hi : Tryz.prog.info? 43 with
  | none => rw [hi] at h; cases h
  | some i => rw [hi] at h; simp only [Option.map_some, Option.some.injEq] at h ⊢; rw [h]
theorem Tryz.is43 : (Tryz.prog.info? 43).isSome = true := by kernel_rfl
theorem Tryz.by43 : (Tryz.prog.info? 43).map (fun j => decide (j.bytes ≤ 1000000)) = some true := by kernel_rfl
theorem Tryz.sz35 : (Tryz.prog.info? 35).map (·.size) = some 3 := by kernel_rfl
theorem Tryz.zr35 : (Tryz.prog.info? 35).map (·.zero) = some (some (.agg #[.int .i64 0, .slice none 0 0, .slice none 0 0])) := by kernel_rfl
theorem Tryz.pl35 (k : Nat) : (Tryz.prog.info? 35).map (fun t => (k, t.size)) = some (k, 3) := by
  have h := Tryz.sz35
  cases hi : Tryz.prog.info? 35 with
  | none => rw [hi] at h; cases h
  | some i => rw [hi] at h; simp only [Option.map_some, Option.some.injEq] at h ⊢; rw [h]
theorem Tryz.is35 : (Tryz.prog.info? 35).isSome = true := by kernel_rfl
theorem Tryz.by35 : (Tryz.prog.info? 35).map (fun j => decide (j.bytes ≤ 1000000)) = some true := by kernel_rfl
theorem Tryz.sz33 : (Tryz.prog.info? 33).map (·.size) = some 2 := by kernel_rfl
theorem Tryz.zr33 : (Tryz.prog.info? 33).map (·.zero) = some (some (.agg #[.slice none 0 0, .slice none 0 0])) := by kernel_rfl
theorem Tryz.pl33 (k : Nat) : (Tryz.prog.info? 33).map (fun t => (k, t.size)) = some (k, 2) := by
  have h := Tryz.sz33
  cases hi : Tryz.prog.info? 33 with
  | none => rw [hi] at h; cases h
  | some i => rw [hi] at h; simp only [Option.map_some, Option.some.injEq] at h ⊢; rw [h]
theorem Tryz.is33 : (Tryz.prog.info? 33).isSome = true := by kernel_rfl
theorem Tryz.by33 : (Tryz.prog.info? 33).map (fun j => decide (j.bytes ≤ 1000000)) = some true := by kernel_rfl
theorem Tryz.sz28 : (Tryz.prog.info? 28).map (·.size) = some 6 := by kernel_rfl
theorem Tryz.zr28 : (Tryz.prog.info? 28).map (·.zero) = some (some (.agg #[.int .i64 0, .int .i64 0, .int .i64 0, .int .i64 0, .int .i64 0, .int .i64 0])) := by kernel_rfl
theorem Tryz.pl28 (k : Nat) : (Tryz.prog.info? 28).map (fun t => (k, t.size)) = some (k, 6) := by
  have h := Tryz.sz28
  cases hi : Tryz.prog.info? 28 with
  | none => rw [hi] at h; cases h
  | some i => rw [hi] at h; simp only [Option.map_some, Option.some.injEq] at h ⊢; rw [h]
theorem Tryz.is28 : (Tryz.prog.info? 28).isSome = true := by kernel_rfl
theorem Tryz.by28 : (Tryz.prog.info? 28).map (fun j => decide (j.bytes ≤ 1000000)) = some true := by kernel_rfl
theorem Tryz.sz39 : (Tryz.prog.info? 39).map (·.size) = some 3 := by kernel_rfl
theorem Tryz.zr39 : (Tryz.prog.info? 39).map (·.zero) = some (some (.agg #[.int .i64 0, .int .i64 0, .int .i64 0])) := by kernel_rfl
theorem Tryz.pl39 (k : Nat) : (Tryz.prog.info? 39).map (fun t => (k, t.size)) = some (k, 3) := by
  have h := Tryz.sz39
  cases hi : Tryz.prog.info? 39 with
  | none => rw [hi] at h; cases h
  | some i => rw [hi] at h; simp only [Option.map_some, Option.some.injEq] at h ⊢; rw [h]
theorem Tryz.is39 : (Tryz.prog.info? 39).isSome = true := by kernel_rfl
theorem Tryz.by39 : (Tryz.prog.info? 39).map (fun j => decide (j.bytes ≤ 1000000)) = some true := by kernel_rfl
theorem Tryz.sz57 : (Tryz.prog.info? 57).map (·.size) = some 5 := by kernel_rfl
theorem Tryz.zr57 : (Tryz.prog.info? 57).map (·.zero) = some (some (.agg #[.int .i64 0, .int .i64 0, .int .i64 0, .int .i64 0, .slice none 0 0])) := by kernel_rfl
theorem Tryz.pl57 (k : Nat) : (Tryz.prog.info? 57).map (fun t => (k, t.size)) = some (k, 5) := by
  have h := Tryz.sz57
  cases hi : Tryz.prog.info? 57 with
  | none => rw [hi] at h; cases h
  | some i => rw [hi] at h; simp only [Option.map_some, Option.some.injEq] at h ⊢; rw [h]
theorem Tryz.is57 : (Tryz.prog.info? 57).isSome = true := by kernel_rfl
theorem Tryz.by57 : (Tryz.prog.info? 57).map (fun j => decide (j.bytes ≤ 1000000)) = some true := by kernel_rfl
theorem Tryz.sz137 : (Tryz.prog.info? 137).map (·.size) = some 3 := by kernel_rfl
theorem Tryz.zr137 : (Tryz.prog.info? 137).map (·.zero) = some (some (.agg #[.int .i64 0, .int .i64 0, .int .i64 0])) := by kernel_rfl
theorem Tryz.pl137 (k : Nat) : (Tryz.prog.info? 137).map (fun t => (k, t.size)) = some (k, 3) := by
  have h := Tryz.sz137
  cases hi : Tryz.prog.info? 137 with
  | none => rw [hi] at h; cases h
  | some i => rw [hi] at h; simp only [Option.map_some, Option.some.injEq] at h ⊢; rw [h]
theorem Tryz.is137 : (Tryz.prog.info? 137).isSome = true := by kernel_rfl
theorem Tryz.by137 : (Tryz.prog.info? 137).map (fun j => decide (j.bytes ≤ 1000000)) = some true := by kernel_rfl
theorem Tryz.sz66 : (Tryz.prog.info? 66).map (·.size) = some 8 := by kernel_rfl
theorem Tryz.zr66 : (Tryz.prog.info? 66).map (·.zero) = some (some (.agg #[.int .i64 0, .int .i64 0, .int .i64 0, .int .i64 0, .int .i64 0, .int .i64 0, .int .i64 0, .int .i64 0])) := by kernel_rfl
theorem Tryz.pl66 (k : Nat) : (Tryz.prog.info? 66).map (fun t => (k, t.size)) = some (k, 8) := by
  have h := Tryz.sz66
  cases hi : Tryz.prog.info? 66 with
  | none => rw [hi] at h; cases h
  | some i => rw [hi] at h; simp only [Option.map_some, Option.some.injEq] at h ⊢; rw [h]
theorem Tryz.is66 : (Tryz.prog.info? 66).isSome = true := by kernel_rfl
theorem Tryz.by66 : (Tryz.prog.info? 66).map (fun j => decide (j.bytes ≤ 1000000)) = some true := by kernel_rfl
theorem Tryz.sz64 : (Tryz.prog.info? 64).map (·.size) = some 5 := by kernel_rfl
theorem Tryz.zr64 : (Tryz.prog.info? 64).map (·.zero) = some (some (.agg #[.int .i64 0, .int .i64 0, .int .i64 0, .int .i64 0, .int .i64 0])) := by kernel_rfl
theorem Tryz.pl64 (k : Nat) : (Tryz.prog.info? 64).map (fun t => (k, t.size)) = some (k, 5) := by
  have h := Tryz.sz64
  cases hi : Tryz.prog.info? 64 with
  | none => rw [hi] at h; cases h
  | some i => rw [hi] at h; simp only [Option.map_some, Option.some.injEq] at h ⊢; rw [h]
theorem Tryz.is64 : (Tryz.prog.info? 64).isSome = true := by kernel_rfl
theorem Tryz.by64 : (Tryz.prog.info? 64).map (fun j => decide (j.bytes ≤ 1000000)) = some true := by kernel_rfl
theorem Tryz.sz60 : (Tryz.prog.info? 60).map (·.size) = some 3 := by kernel_rfl
theorem Tryz.zr60 : (Tryz.prog.info? 60).map (·.zero) = some (some (.agg #[.int .i64 0, .int .i64 0, .int .i64 0])) := by kernel_rfl
theorem Tryz.pl60 (k : Nat) : (Tryz.prog.info? 60).map (fun t => (k, t.size)) = some (k, 3) := by
  have h := Tryz.sz60
  cases hi : Tryz.prog.info? 60 with
  | none => rw [hi] at h; cases h
  | some i => rw [hi] at h; simp only [Option.map_some, Option.some.injEq] at h ⊢; rw [h]
theorem Tryz.is60 : (Tryz.prog.info? 60).isSome = true := by kernel_rfl
theorem Tryz.by60 : (Tryz.prog.info? 60).map (fun j => decide (j.bytes ≤ 1000000)) = some true := by kernel_rfl
theorem Tryz.sz100 : (Tryz.prog.info? 100).map (·.size) = some 2 := by kernel_rfl
theorem Tryz.zr100 : (Tryz.prog.info? 100).map (·.zero) = some (some (.agg #[.int .i64 0, .int .i64 0])) := by kernel_rfl
theorem Tryz.pl100 (k : Nat) : (Tryz.prog.info? 100).map (fun t => (k, t.size)) = some (k, 2) := by
  have h := Tryz.sz100
  cases hi : Tryz.prog.info? 100 with
  | none => rw [hi] at h; cases h
  | some i => rw [hi] at h; simp only [Option.map_some, Option.some.injEq] at h ⊢; rw [h]
theorem Tryz.is100 : (Tryz.prog.info? 100).isSome = true := by kernel_rfl
theorem Tryz.by100 : (Tryz.prog.info? 100).map (fun j => decide (j.bytes ≤ 1000000)) = some true := by kernel_rfl
theorem Tryz.sz103 : (Tryz.prog.info? 103).map (·.size) = some 4 := by kernel_rfl
theorem Tryz.zr103 : (Tryz.prog.info? 103).map (·.zero) = some (some (.agg #[.int .i64 0, .int .i64 0, .int .i64 0, .int .i64 0])) := by kernel_rfl
theorem Tryz.pl103 (k : Nat) : (Tryz.prog.info? 103).map (fun t => (k, t.size)) = some (k, 4) := by
  have h := Tryz.sz103
  cases hi : Tryz.prog.info? 103 with
  | none => rw [hi] at h; cases h
  | some i => rw [hi] at h; simp only [Option.map_some, Option.some.injEq] at h ⊢; rw [h]
theorem Tryz.is103 : (Tryz.prog.info? 103).isSome = true := by kernel_rfl
theorem Tryz.by103 : (Tryz.prog.info? 103).map (fun j => decide (j.bytes ≤ 1000000)) = some true := by kernel_rfl
theorem Tryz.sz26 : (Tryz.prog.info? 26).map (·.size) = some 6 := by kernel_rfl
theorem Tryz.zr26 : (Tryz.prog.info? 26).map (·.zero) = some (some (.agg #[.int .i64 0, .slice none 0 0, .int .i64 0, .int .i64 0, .slice none 0 0, .slice none 0 0])) := by kernel_rfl
theorem Tryz.pl26 (k : Nat) : (Tryz.prog.info? 26).map (fun t => (k, t.size)) = some (k, 6) := by
  have h := Tryz.sz26
  cases hi : Tryz.prog.info? 26 with
  | none => rw [hi] at h; cases h
  | some i => rw [hi] at h; simp only [Option.map_some, Option.some.injEq] at h ⊢; rw [h]
theorem Tryz.is26 : (Tryz.prog.info? 26).isSome = true := by kernel_rfl
theorem Tryz.by26 : (Tryz.prog.info? 26).map (fun j => decide (j.bytes ≤ 1000000)) = some true := by kernel_rfl
theorem Tryz.sz120 : (Tryz.prog.info? 120).map (·.size) = some 1 := by kernel_rfl
theorem Tryz.zr120 : (Tryz.prog.info? 120).map (·.zero) = some (some (.slice none 0 0)) := by kernel_rfl
theorem Tryz.pl120 (k : Nat) : (Tryz.prog.info? 120).map (fun t => (k, t.size)) = some (k, 1) := by
  have h := Tryz.sz120
  cases hi : Tryz.prog.info? 120 with
  | none => rw [hi] at h; cases h
  | some i => rw [hi] at h; simp only [Option.map_some, Option.some.injEq] at h ⊢; rw [h]
theorem Tryz.is120 : (Tryz.prog.info? 120).isSome = true := by kernel_rfl
theorem Tryz.by120 : (Tryz.prog.info? 120).map (fun j => decide (j.bytes ≤ 1000000)) = some true := by kernel_rfl
theorem Tryz.sz117 : (Tryz.prog.info? 117).map (·.size) = some 1 := by kernel_rfl
theorem Tryz.zr117 : (Tryz.prog.info? 117).map (·.zero) = some (some (.slice none 0 0)) := by kernel_rfl
theorem Tryz.pl117 (k : Nat) : (Tryz.prog.info? 117).map (fun t => (k, t.size)) = some (k, 1) := by
  have h := Tryz.sz117
  cases hi : Tryz.prog.info? 117 with
  | none => rw [hi] at h; cases h
  | some i => rw [hi] at h; simp only [Option.map_some, Option.some.injEq] at h ⊢; rw [h]
theorem Tryz.is117 : (Tryz.prog.info? 117).isSome = true := by kernel_rfl
theorem Tryz.by117 : (Tryz.prog.info? 117).map (fun j => decide (j.bytes ≤ 1000000)) = some true := by kernel_rfl
theorem Tryz.sz30 : (Tryz.prog.info? 30).map (·.size) = some 1 := by kernel_rfl
theorem Tryz.zr30 : (Tryz.prog.info? 30).map (·.zero) = some (some (.slice none 0 0)) := by kernel_rfl
theorem Tryz.pl30 (k : Nat) : (Tryz.prog.info? 30).map (fun t => (k, t.size)) = some (k, 1) := by
  have h := Tryz.sz30
  cases hi : Tryz.prog.info? 30 with
  | none => rw [hi] at h; cases h
  | some i => rw [hi] at h; simp only [Option.map_some, Option.some.injEq] at h ⊢; rw [h]
theorem Tryz.is30 : (Tryz.prog.info? 30).isSome = true := by kernel_rfl
theorem Tryz.by30 : (Tryz.prog.info? 30).map (fun j => decide (j.bytes ≤ 1000000)) = some true := by kernel_rfl
theorem Tryz.sz31 : (Tryz.prog.info? 31).map (·.size) = some 1 := by kernel_rfl
theorem Tryz.zr31 : (Tryz.prog.info? 31).map (·.zero) = some (some (.slice none 0 0)) := by kernel_rfl
theorem Tryz.pl31 (k : Nat) : (Tryz.prog.info? 31).map (fun t => (k, t.size)) = some (k, 1) := by
  have h := Tryz.sz31
  cases hi : Tryz.prog.info? 31 with
  | none => rw [hi] at h; cases h
  | some i => rw [hi] at h; simp only [Option.map_some, Option.some.injEq] at h ⊢; rw [h]
theorem Tryz.is31 : (Tryz.prog.info? 31).isSome = true := by kernel_rfl
theorem Tryz.by31 : (Tryz.prog.info? 31).map (fun j => decide (j.bytes ≤ 1000000)) = some true := by kernel_rfl
theorem Tryz.sz40 : (Tryz.prog.info? 40).map (·.size) = some 1 := by kernel_rfl
theorem Tryz.zr40 : (Tryz.prog.info? 40).map (·.zero) = some (some (.slice none 0 0)) := by kernel_rfl
theorem Tryz.pl40 (k : Nat) : (Tryz.prog.info? 40).map (fun t => (k, t.size)) = some (k, 1) := by
  have h := Tryz.sz40
  cases hi : Tryz.prog.info? 40 with
  | none => rw [hi] at h; cases h
  | some i => rw [hi] at h; simp only [Option.map_some, Option.some.injEq] at h ⊢; rw [h]
theorem Tryz.is40 : (Tryz.prog.info? 40).isSome = true := by kernel_rfl
theorem Tryz.by40 : (Tryz.prog.info? 40).map (fun j => decide (j.bytes ≤ 1000000)) = some true := by kernel_rfl
theorem Tryz.sz23 : (Tryz.prog.info? 23).map (·.size) = some 1 := by kernel_rfl
theorem Tryz.zr23 : (Tryz.prog.info? 23).map (·.zero) = some (some (.slice none 0 0)) := by kernel_rfl
theorem Tryz.pl23 (k : Nat) : (Tryz.prog.info? 23).map (fun t => (k, t.size)) = some (k, 1) := by
  have h := Tryz.sz23
  cases hi : Tryz.prog.info? 23 with
  | none => rw [hi] at h; cases h
  | some i => rw [hi] at h; simp only [Option.map_some, Option.some.injEq] at h ⊢; rw [h]
theorem Tryz.is23 : (Tryz.prog.info? 23).isSome = true := by kernel_rfl
theorem Tryz.by23 : (Tryz.prog.info? 23).map (fun j => decide (j.bytes ≤ 1000000)) = some true := by kernel_rfl
theorem Tryz.sz24 : (Tryz.prog.info? 24).map (·.size) = some 1 := by kernel_rfl
theorem Tryz.zr24 : (Tryz.prog.info? 24).map (·.zero) = some (some (.slice none 0 0)) := by kernel_rfl
theorem Tryz.pl24 (k : Nat) : (Tryz.prog.info? 24).map (fun t => (k, t.size)) = some (k, 1) := by
  have h := Tryz.sz24
  cases hi : Tryz.prog.info? 24 with
  | none => rw [hi] at h; cases h
  | some i => rw [hi] at h; simp only [Option.map_some, Option.some.injEq] at h ⊢; rw [h]
theorem Tryz.is24 : (Tryz.prog.info? 24).isSome = true := by kernel_rfl
theorem Tryz.by24 : (Tryz.prog.info? 24).map (fun j => decide (j.bytes ≤ 1000000)) = some true := by kernel_rfl
theorem Tryz.sz22 : (Tryz.prog.info? 22).map (·.size) = some 1 := by kernel_rfl
theorem Tryz.zr22 : (Tryz.prog.info? 22).map (·.zero) = some (some (.slice none 0 0)) := by kernel_rfl
theorem Tryz.pl22 (k : Nat) : (Tryz.prog.info? 22).map (fun t => (k, t.size)) = some (k, 1) := by
  have h := Tryz.sz22
  cases hi : Tryz.prog.info? 22 with
  | none => rw [hi] at h; cases h
  | some i => rw [hi] at h; simp only [Option.map_some, Option.some.injEq] at h ⊢; rw [h]
theorem Tryz.is22 : (Tryz.prog.info? 22).isSome = true := by kernel_rfl
theorem Tryz.by22 : (Tryz.prog.info? 22).map (fun j => decide (j.bytes ≤ 1000000)) = some true := by kernel_rfl
theorem Tryz.sz141 : (Tryz.prog.info? 141).map (·.size) = some 1 := by kernel_rfl
theorem Tryz.zr141 : (Tryz.prog.info? 141).map (·.zero) = some (some (.int .u64 0)) := by kernel_rfl
theorem Tryz.pl141 (k : Nat) : (Tryz.prog.info? 141).map (fun t => (k, t.size)) = some (k, 1) := by
  have h := Tryz.sz141
  cases hi : Tryz.prog.info? 141 with
  | none => rw [hi] at h; cases h
  | some i => rw [hi] at h; simp only [Option.map_some, Option.some.injEq] at h ⊢; rw [h]
theorem Tryz.is141 : (Tryz.prog.info? 141).isSome = true := by kernel_rfl
theorem Tryz.by141 : (Tryz.prog.info? 141).map (fun j => decide (j.bytes ≤ 1000000)) = some true := by kernel_rfl
theorem Tryz.sz42 : (Tryz.prog.info? 42).map (·.size) = some 4 := by kernel_rfl
theorem Tryz.zr42 : (Tryz.prog.info? 42).map (·.zero) = some (some (.agg #[.int .i64 0, .int .i64 0, .int .i64 0, .slice none 0 0])) := by kernel_rfl
theorem Tryz.pl42 (k : Nat) : (Tryz.prog.info? 42).map (fun t => (k, t.size)) = some (k, 4) := by
  have h := Tryz.sz42
  cases hi : Tryz.prog.info? 42 with
  | none => rw [hi] at h; cases h
  | some i => rw [hi] at h; simp only [Option.map_some, Option.some.injEq] at h ⊢; rw [h]
theorem Tryz.is42 : (Tryz.prog.info? 42).isSome = true := by kernel_rfl
theorem Tryz.by42 : (Tryz.prog.info? 42).map (fun j => decide (j.bytes ≤ 1000000)) = some true := by kernel_rfl
theorem Tryz.sz29 : (Tryz.prog.info? 29).map (·.size) = some 1 := by kernel_rfl
theorem Tryz.zr29 : (Tryz.prog.info? 29).map (·.zero) = some (some (.slice none 0 0)) := by kernel_rfl
theorem Tryz.pl29 (k : Nat) : (Tryz.prog.info? 29).map (fun t => (k, t.size)) = some (k, 1) := by
  have h := Tryz.sz29
  cases hi : Tryz.prog.info? 29 with
  | none => rw [hi] at h; cases h
  | some i => rw [hi] at h; simp only [Option.map_some, Option.some.injEq] at h ⊢; rw [h]
theorem Tryz.is29 : (Tryz.prog.info? 29).isSome = true := by kernel_rfl
theorem Tryz.by29 : (Tryz.prog.info? 29).map (fun j => decide (j.bytes ≤ 1000000)) = some true := by kernel_rfl
theorem Tryz.sz83 : (Tryz.prog.info? 83).map (·.size) = some 1 := by kernel_rfl
theorem Tryz.zr83 : (Tryz.prog.info? 83).map (·.zero) = some (some (.slice none 0 0)) := by kernel_rfl
theorem Tryz.pl83 (k : Nat) : (Tryz.prog.info? 83).map (fun t => (k, t.size)) = some (k, 1) := by
  have h := Tryz.sz83
  cases hi : Tryz.prog.info? 83 with
  | none => rw [hi] at h; cases h
  | some i => rw [hi] at h; simp only [Option.map_some, Option.some.injEq] at h ⊢; rw [h]
theorem Tryz.is83 : (Tryz.prog.info? 83).isSome = true := by kernel_rfl
theorem Tryz.by83 : (Tryz.prog.info? 83).map (fun j => decide (j.bytes ≤ 1000000)) = some true := by kernel_rfl
theorem Tryz.sz67 : (Tryz.prog.info? 67).map (·.size) = some 1 := by kernel_rfl
theorem Tryz.zr67 : (Tryz.prog.info? 67).map (·.zero) = some (some (.nilFunc)) := by kernel_rfl
theorem Tryz.pl67 (k : Nat) : (Tryz.prog.info? 67).map (fun t => (k, t.size)) = some (k, 1) := by
  have h := Tryz.sz67
  cases hi : Tryz.prog.info? 67 with
  | none => rw [hi] at h; cases h
  | some i => rw [hi] at h; simp only [Option.map_some, Option.some.injEq] at h ⊢; rw [h]
theorem Tryz.is67 : (Tryz.prog.info? 67).isSome = true := by kernel_rfl
theorem Tryz.by67 : (Tryz.prog.info? 67).map (fun j => decide (j.bytes ≤ 1000000)) = some true := by kernel_rfl
theorem Tryz.sz20 : (Tryz.prog.info? 20).map (·.size) = some 1 := by kernel_rfl
theorem Tryz.zr20 : (Tryz.prog.info? 20).map (·.zero) = some (some (.nilIface)) := by kernel_rfl
theorem Tryz.pl20 (k : Nat) : (Tryz.prog.info? 20).map (fun t => (k, t.size)) = some (k, 1) := by
  have h := Tryz.sz20
  cases hi : Tryz.prog.info? 20 with
  | none => rw [hi] at h; cases h
  | some i => rw [hi] at h; simp only [Option.map_some, Option.some.injEq] at h ⊢; rw [h]
theorem Tryz.is20 : (Tryz.prog.info? 20).isSome = true := by kernel_rfl
theorem Tryz.by20 : (Tryz.prog.info? 20).map (fun j => decide (j.bytes ≤ 1000000)) = some true := by kernel_rfl
theorem Tryz.sz89 : (Tryz.prog.info? 89).map (·.size) = some 1 := by kernel_rfl
theorem Tryz.zr89 : (Tryz.prog.info? 89).map (·.zero) = some (some (.slice none 0 0)) := by kernel_rfl
theorem Tryz.pl89 (k : Nat) : (Tryz.prog.info? 89).map (fun t => (k, t.size)) = some (k, 1) := by
  have h := Tryz.sz89
  cases hi : Tryz.prog.info? 89 with
  | none => rw [hi] at h; cases h
  | some i => rw [hi] at h; simp only [Option.map_some, Option.some.injEq] at h ⊢; rw [h]
theorem Tryz.is89 : (Tryz.prog.info? 89).isSome = true := by kernel_rfl
theorem Tryz.by89 : (Tryz.prog.info? 89).map (fun j => decide (j.bytes ≤ 1000000)) = some true := by kernel_rfl
theorem Tryz.sz132 : (Tryz.prog.info? 132).map (·.size) = some 1 := by kernel_rfl
theorem Tryz.zr132 : (Tryz.prog.info? 132).map (·.zero) = some (some (.slice none 0 0)) := by kernel_rfl
theorem Tryz.pl132 (k : Nat) : (Tryz.prog.info? 132).map (fun t => (k, t.size)) = some (k, 1) := by
  have h := Tryz.sz132
  cases hi : Tryz.prog.info? 132 with
  | none => rw [hi] at h; cases h
  | some i => rw [hi] at h; simp only [Option.map_some, Option.some.injEq] at h ⊢; rw [h]
theorem Tryz.is132 : (Tryz.prog.info? 132).isSome = true := by kernel_rfl
theorem Tryz.by132 : (Tryz.prog.info? 132).map (fun j => decide (j.bytes ≤ 1000000)) = some true := by kernel_rfl
theorem Tryz.sz113 : (Tryz.prog.info? 113).map (·.size) = some 1 := by kernel_rfl
theorem Tryz.zr113 : (Tryz.prog.info? 113).map (·.zero) = some (some (.slice none 0 0)) := by kernel_rfl
theorem Tryz.pl113 (k : Nat) : (Tryz.prog.info? 113).map (fun t => (k, t.size)) = some (k, 1) := by
  have h := Tryz.sz113
  cases hi : Tryz.prog.info? 113 with
  | none => rw [hi] at h; cases h
  | some i => rw [hi] at h; simp only [Option.map_some, Option.some.injEq] at h ⊢; rw [h]
theorem Tryz.is113 : (Tryz.prog.info? 113).isSome = true := by kernel_rfl
theorem Tryz.by113 : (Tryz.prog.info? 113).map (fun j => decide (j.bytes ≤ 1000000)) = some true := by kernel_rfl
theorem Tryz.sz9 : (Tryz.prog.info? 9).map (·.size) = some 1 := by kernel_rfl
theorem Tryz.zr9 : (Tryz.prog.info? 9).map (·.zero) = some (some (.string ⟨#[]⟩)) := by kernel_rfl
theorem Tryz.pl9 (k : Nat) : (Tryz.prog.info? 9).map (fun t => (k, t.size)) = some (k, 1) := by
  have h := Tryz.sz9
  cases hi : Tryz.prog.info? 9 with
  | none => rw [hi] at h; cases h
  | some i => rw [hi] at h; simp only [Option.map_some, Option.some.injEq] at h ⊢; rw [h]
theorem Tryz.is9 : (Tryz.prog.info? 9).isSome = true := by kernel_rfl
theorem Tryz.by9 : (Tryz.prog.info? 9).map (fun j => decide (j.bytes ≤ 1000000)) = some true := by kernel_rfl
theorem Tryz.it39 : Av.intT Tryz.prog 8 39 = some 3 := by kernel_rfl
theorem Tryz.eg39 : Tryz.prog.eqGuardType Tryz.prog.depth 39 = false := by kernel_rfl
theorem Tryz.it137 : Av.intT Tryz.prog 8 137 = some 3 := by kernel_rfl
theorem Tryz.eg137 : Tryz.prog.eqGuardType Tryz.prog.depth 137 = false := by kernel_rfl
theorem Tryz.it66 : Av.intT Tryz.prog 8 66 = some 8 := by kernel_rfl
theorem Tryz.eg66 : Tryz.prog.eqGuardType Tryz.prog.depth 66 = false := by kernel_rfl
theorem Tryz.it28 : Av.intT Tryz.prog 8 28 = some 6 := by kernel_rfl
theorem Tryz.eg28 : Tryz.prog.eqGuardType Tryz.prog.depth 28 = false := by kernel_rfl
theorem Tryz.it60 : Av.intT Tryz.prog 8 60 = some 3 := by kernel_rfl
theorem Tryz.eg60 : Tryz.prog.eqGuardType Tryz.prog.depth 60 = false := by kernel_rfl
end Go.Proofs.YticnppnejafhdaaGreatDoor
/- Abstract states: what else a frame holds: how it changes; operations by hand. Generic. -/
namespace Go.Proofs.YticnppnejafhdaaGreatDoor
open Go.RowKit
namespace Av

/-- From w to w1 only blocks of E0 have changed, and new ones have come; E holds there, of E0's blocks and new ones. -/
structure Turn (E0 : Ext) (w w1 : World) (E : Ext) : Prop where
  os : w1.os = w.os
  tape : w1.tape = w.tape
  output : w1.output = w.output
  size : w.heap.size ≤ w1.heap.size
  block : ∀ k, k < w.heap.size → ¬ E0.foot k → w1.heap[k]? = w.heap[k]?
  holds : E.holds w1
  foot : ∀ b, E.foot b → E0.foot b ∨ (w.heap.size ≤ b ∧ b < w1.heap.size)
  froz : ∀ b, E.froz b → E0.foot b ∨ E0.froz b ∨ (w.heap.size ≤ b ∧ b < w1.heap.size)
  laid : ∀ w0, E0.laid w0 → E.laid w0 := by intros; repeat' (first | assumption | trivial | constructor)
theorem Turn.same {E0 E : Ext} {w : World} (h : E.holds w) (hf : ∀ b, E.foot b → E0.foot b) (hz : ∀ b, E.froz b → E0.foot b ∨ E0.froz b) (hl : ∀ w0, E0.laid w0 → E.laid w0 := by intros; repeat' (first | assumption | trivial | constructor)) : Turn E0 w w E := ⟨rfl, rfl, rfl, Nat.le_refl _, fun _ _ _ => rfl, h, fun b hb => .inl (hf b hb), fun b hb => (hz b hb).elim .inl (fun h => .inr (.inl h)), hl⟩
theorem Turn.below {E0 E : Ext} {w w1 : World} (hb : Below w.heap.size w w1) (h : E.holds w1) (hf : ∀ b, E.foot b → E0.foot b ∨ (w.heap.size ≤ b ∧ b < w1.heap.size)) (hz : ∀ b, E.froz b → E0.foot b ∨ E0.froz b ∨ (w.heap.size ≤ b ∧ b < w1.heap.size)) (hl : ∀ w0, E0.laid w0 → E.laid w0 := by intros; repeat' (first | assumption | trivial | constructor)) : Turn E0 w w1 E := ⟨hb.os, hb.tape, hb.output, hb.size, fun k hk _ => hb.block k hk, h, hf, hz, hl⟩
section
variable {P : Program} {F : Fr} {σ : St} {γ : Gh} {a : Act} {w w1 : World} {E : Ext}
theorem Rel.turn_le (h : Rel F σ γ a w) (ht : Turn σ.ext w w1 E) : ∀ p v, rdr F.R0 F.w0.heap.size σ γ w p = some v → rdr F.R0 F.w0.heap.size { σ with ext := E } γ w1 p = some v := by
  refine rdr_le fun p v hB hm hc => ?_
  have hlt := Rel.cell_lt hc
  have hne : ¬ σ.ext.foot p.block := fun hx => hm (.inr (.inr hx))
  refine ⟨fun hm' => ?_, (World.cell?_of_block (w := w) (ht.block p.block hlt hne)).trans hc⟩
  rcases hm' with hm' | ⟨L, e, sz, rows, h1, h2, h3, h4⟩ | hx
  · exact hm (.inl hm')
  · exact hm (.inr (.inl ⟨L, e, sz, rows, h1, by cases L <;> exact h2, h3, h4⟩))
  · rcases ht.foot _ hx with h1 | h1
    · exact hne h1
    · omega
/-- What else the frame holds has changed. -/
theorem Rel.turn (h : Rel F σ γ a w) (ht : Turn σ.ext w w1 E) : Rel F { σ with ext := E } γ a w1 := by
  have hle := h.turn_le ht
  have hboxb : ∀ k, (look σ.box k).isSome → w1.heap[γ.bx k]? = w.heap[γ.bx k]? := fun k hk => ht.block _ (h.box_lt hk).1 (fun hx => (h.extf _ (.inl hx)).2.2.1 k hk rfl)
  have hrowb : ∀ L g, (lookL σ.own L).isSome → γ.rw L = some g → w1.heap[g]? = w.heap[g]? := fun L g hL hg => ht.block _ (h.row_lt hL hg).1 (fun hx => (h.extf _ (.inl hx)).2.2.2 L hL hg)
  refine ⟨h.defers, h.size, h.below.trans ⟨ht.os, ht.tape, ht.output, ht.size, fun i hi => ht.block i (Nat.lt_of_lt_of_le hi h.base) (fun hx => by have := (h.extf _ (.inl hx)).1; omega)⟩, h.r0, fun t x hx => ?_, fun k cs hk => ?_, h.boxinj, fun L e sz hL => ?_, h.rowinj, h.rowbox, ht.holds, fun b hb => ?_, h.small, h.dyn, ht.laid _ h.laid⟩
  · obtain ⟨h1, h2⟩ := h.slots t x hx
    exact ⟨h1.mono hle (fun _ _ => rfl), h2⟩
  · obtain ⟨us, ty, h1, h2, h3⟩ := h.boxes k cs hk
    exact ⟨us, ty, (hboxb k (by rw [show look σ.box k = _ from hk]; rfl)).trans h1, h2, h3.mono hle⟩
  · obtain ⟨rows, v, h1, h2, h3⟩ := h.owns L e sz hL
    have hs : (lookL σ.own L).isSome := by rw [show lookL σ.own L = _ from hL]; rfl
    refine ⟨rows, v, by cases L <;> exact h1, ?_, h3.keep fun g hg => hrowb L g hs hg⟩
    cases L with
    | s t => exact h2
    | b k off =>
      have hk : (look σ.box k).isSome := by
        cases hq : look σ.box k with
        | none => simp [St.avAt, hq] at h1
        | some _ => rfl
      exact (World.cell?_of_block (w := w) (a := ⟨γ.bx k, off, none⟩) (hboxb k hk)).trans h2
  · have hb' : (σ.ext.foot b ∨ σ.ext.froz b) ∨ (w.heap.size ≤ b ∧ b < w1.heap.size) := by
      rcases hb with hb | hb
      · exact (ht.foot b hb).elim (fun h => .inl (.inl h)) .inr
      · exact (ht.froz b hb).elim (fun h => .inl (.inl h)) (fun h => h.elim (fun h => .inl (.inr h)) .inr)
    rcases hb' with h1 | ⟨h1, h2⟩
    · obtain ⟨h3, h4, h5, h6⟩ := h.extf b h1
      exact ⟨h3, Nat.lt_of_lt_of_le h4 ht.size, h5, h6⟩
    · have := h.base
      refine ⟨by omega, h2, fun k hk e => ?_, fun L hL e => ?_⟩
      · have := (h.box_lt hk).1; omega
      · have := (h.row_lt hL e).1; omega
/-- An operation by hand that yields a value. -/
theorem hand_value {n : Nat} {o : Oper} {d : Nat} {K : St → Prop} (hd : o.dst = some d) (hdn : d < n)
    (h : ∀ (F : Fr) (γ : Gh) (a : Act) (w : World), F.n = n → Rel F σ γ a w → ∃ x v w1 E, (execOp a.eval o).run P w = .ok (.value v) w1 ∧ Turn σ.ext w w1 E ∧ RepA (rdr F.R0 F.w0.heap.size { σ with ext := E } γ w1) γ.bx x v ∧ (∀ k ∈ x.refs, (look σ.box k).isSome) ∧ K (({ σ with ext := E } : St).put d x)) : Hand P n σ o K := by
  intro F γ a w hF hr Q
  obtain ⟨x, v, w1, E, hrun, ht, hx, href, hK⟩ := h F γ a w hF hr
  unfold Oper.wp
  rw [hrun]
  show ∃ σ' γ', K σ' ∧ Rel F σ' γ' (a.put o.dst v) w1
  rw [hd]
  exact ⟨_, γ, hK, (hr.turn ht).put (by rw [hF]; exact hdn) hx href⟩
/-- A slot's value. -/
theorem Rel.val (h : Rel F σ γ a w) {t : Nat} {v : Value} (ht : look σ.slot t = some (.v v)) : a.tmps.getD t undef = v := (h.slots t _ ht).1
theorem Rel.agg (h : Rel F σ γ a w) {t : Nat} {xs : List PV} (ht : look σ.slot t = some (.agg xs)) : ∃ us, a.tmps.getD t undef = .agg us.toArray ∧ RepL (rdr F.R0 F.w0.heap.size σ γ w) xs us := (h.slots t _ ht).1
end
end Av
end Go.Proofs.YticnppnejafhdaaGreatDoor
/- Maps that a call makes, by what they hold at each key. Generic. -/
namespace Go.Proofs.YticnppnejafhdaaGreatDoor
open Go.RowKit Go.Maps
open Go.Maps (Keyed)
namespace Av

abbrev MReader := Value → Option (DataW Unit × List MemPlace)
/-- Block b is a map of at most n entries; at a key it holds what reads as G says. -/
def MapIs (w : World) (P : Program) (k : TypeId) (R : MReader) (b n : Nat) (G : Value → Option (DataW Unit)) : Prop :=
  ∃ D, w.ownsMap P k R b n D ∧ IsMap D ∧ ∀ key kl, keyOf P k key = some kl → match G key with | some d => ∀ z, D.atKey kl z = d | none => ∀ z, D.atKey kl z = z
section
variable {P : Program} {k : TypeId} {R : MReader} {b n : Nat} {G : Value → Option (DataW Unit)} {w w' : World}
theorem MapIs.made (w : World) : MapIs (w.alloc (.map #[] 0)) P k R w.heap.size 0 (fun _ => none) :=
  ⟨.map [], World.ownsMap_made w _ _ _, isMap_empty, fun _ _ _ _ => by simp [DataW.atKey]⟩
theorem MapIs.stable (h : MapIs w P k R b n G) (hb : w'.heap[b]? = w.heap[b]?) : MapIs w' P k R b n G := by
  obtain ⟨D, ⟨es, clock, h1, h2⟩, h3⟩ := h
  exact ⟨D, ⟨es, clock, hb.trans h1, h2⟩, h3⟩
theorem MapIs.lt (h : MapIs w P k R b n G) : b < w.heap.size := by
  obtain ⟨D, h1, _⟩ := h
  exact h1.lt
theorem MapIs.mono (h : MapIs w P k R b n G) {n' : Nat} (hn : n ≤ n') : MapIs w P k R b n' G := by
  obtain ⟨D, h1, h2⟩ := h
  exact ⟨D, h1.mono hn, h2⟩
theorem MapIs.look (h : MapIs w P k R b n G) (c : Bool) (K : Keyed P k) {t e : TypeId} (ht : P.underlying t = some (.map k e)) {z : Value} (hz : (zeroValue e).run P w = .ok z w) {key : Value} {kl : Lit} (hkey : keyOf P k key = some kl) :
    (G key = none ∧ (Instr.lookup t (.map (some b)) key c).run P w = .ok (if c then .tuple #[z, .bool false] else z) w) ∨
    ∃ v d ps, G key = some d ∧ R v = some (d, ps) ∧ (Instr.lookup t (.map (some b)) key c).run P w = .ok (if c then .tuple #[v, .bool true] else v) w := by
  obtain ⟨D, ⟨es, clock, hb, F, _, rfl⟩, _, h3⟩ := h
  have h4 := h3 key kl hkey
  rcases fit_look c K ht hz hb F hkey with ⟨hrun, _, hat⟩ | ⟨e0, y, _, _, hrun, hRv, hat, _⟩
  · refine .inl ⟨?_, hrun⟩
    cases hG : G key with
    | none => rfl
    | some d =>
      rw [hG] at h4
      have h5 := (hat (.lit (.bool true))).symm.trans (h4 _)
      have h6 := (hat (.lit (.bool false))).symm.trans (h4 _)
      rw [← h6] at h5
      cases h5
  · refine .inr ?_
    cases hG : G key with
    | none =>
      rw [hG] at h4
      have h5 := (hat (.lit (.bool true))).symm.trans (h4 _)
      have h6 := (hat (.lit (.bool false))).symm.trans (h4 _)
      rw [h5] at h6
      cases h6
    | some d =>
      rw [hG] at h4
      have h5 : y.1 = d := (hat .nil).symm.trans (h4 _)
      exact ⟨e0.val, d, y.2, rfl, by rw [hRv, ← h5], hrun⟩
open Classical in
theorem MapIs.put (h : MapIs w P k R b n G) (K : Keyed P k) {t e : TypeId} (ht : P.underlying t = some (.map k e)) (hn : n < maxLen) {key val : Value} {kl : Lit} {d : DataW Unit} {ps : List MemPlace} (hkey : keyOf P k key = some kl) (hv : R val = some (d, ps)) :
    ∃ w', (Instr.mapUpdate t (.map (some b)) key val).run P w = .ok () w' ∧ MapIs w' P k R b (n + 1) (fun x => if x = key then some d else G x) ∧ w.grownBy w' (some b) := by
  obtain ⟨D, h1, h2, h3⟩ := h
  obtain ⟨w', hrun, r1, r2⟩ := h1.update K ht hn hkey hv
  refine ⟨w', hrun, ⟨_, r1, h2.put _ _, fun x xl hx => ?_⟩, r2⟩
  show match (if x = key then some d else G x) with | some d => ∀ z, _ = d | none => ∀ z, _ = z
  by_cases e : x = key
  · subst e
    have : xl = kl := by rw [hx] at hkey; exact Option.some.inj hkey
    subst this
    rw [if_pos rfl]
    exact fun z => atKey_put_same h2 (K.key hkey) _ _
  · rw [if_neg e]
    have hne : xl ≠ kl := fun e' => e (K.inj hx (by rw [e']; exact hkey))
    have h4 := h3 x xl hx
    cases hG : G x with
    | none =>
      rw [hG] at h4
      exact fun z => (atKey_put_other hne _ _).trans (h4 z)
    | some d' =>
      rw [hG] at h4
      exact fun z => (atKey_put_other hne _ _).trans (h4 z)
end
end Av
end Go.Proofs.YticnppnejafhdaaGreatDoor
/- Ranges over maps that a call makes. Generic. -/
namespace Go.Proofs.YticnppnejafhdaaGreatDoor
open Go.RowKit Go.Maps
open Go.Maps (Keyed)
namespace Av

/-- Block r is an iterator over the map b; at the keys of S there are entries to come. -/
def RangeIs (w : World) (P : Program) (k : TypeId) (R : MReader) (b r n : Nat) (G : Value → Option (DataW Unit)) (S : Value → Prop) (cnt : Nat) : Prop :=
  ∃ D left, w.ranges P k R b r n D left cnt ∧ IsMap D ∧ (∀ key kl, keyOf P k key = some kl → match G key with | some d => ∀ z, D.atKey kl z = d | none => ∀ z, D.atKey kl z = z) ∧ ∀ key kl, keyOf P k key = some kl → (left kl = true ↔ S key)
section
variable {P : Program} {k : TypeId} {R : MReader} {b r n cnt : Nat} {G : Value → Option (DataW Unit)} {S : Value → Prop} {w w' : World}
theorem RangeIs.stable (h : RangeIs w P k R b r n G S cnt) (hb : w'.heap[b]? = w.heap[b]?) (hr : w'.heap[r]? = w.heap[r]?) : RangeIs w' P k R b r n G S cnt := by
  obtain ⟨D, left, ⟨es, clock, since, seen, c0, h1, h2, h3, h4, h5, h6⟩, h7⟩ := h
  exact ⟨D, left, ⟨es, clock, since, seen, c0, hb.trans h1, h2, h3, h4, hr.trans h5, h6⟩, h7⟩
theorem RangeIs.lt (h : RangeIs w P k R b r n G S cnt) : b < w.heap.size ∧ r < w.heap.size ∧ r ≠ b := by
  obtain ⟨D, left, h1, _⟩ := h
  exact ⟨h1.owns.lt, h1.lt, h1.ne⟩
theorem has_of_atKey {D : DataW Unit} {kl : Lit} {o : Option (DataW Unit)} (h : match o with | some d => ∀ z, D.atKey kl z = d | none => ∀ z, D.atKey kl z = z) : has D kl = true ↔ o.isSome = true := by
  cases o with
  | none => rw [has_false_of_atKey h]; simp
  | some d => rw [has_true_of_atKey h]; simp
theorem MapIs.range (h : MapIs w P k R b n G) (K : Keyed P k) {t e : TypeId} (ht : P.underlying t = some (.map k e)) :
    ∃ w' cnt, (Instr.range t (.map (some b))).run P w = .ok (.pointer (some ⟨w.heap.size, 0, none⟩)) w' ∧ RangeIs w' P k R b w.heap.size n G (fun key => (G key).isSome = true) cnt ∧ w.grownBy w' none ∧ w'.heap.size = w.heap.size + 1 := by
  obtain ⟨D, h1, h2, h3⟩ := h
  obtain ⟨w', hrun, r1, r2, r3⟩ := h1.range K ht
  exact ⟨w', _, hrun, ⟨D, _, r1, h2, h3, fun key kl hkey => has_of_atKey (h3 key kl hkey)⟩, r2, r3⟩
theorem RangeIs.next (h : RangeIs w P k R b r n G S cnt) (K : Keyed P k) (ty : TypeId) :
    ((∀ key kl, keyOf P k key = some kl → ¬ S key) ∧ (Instr.next (.pointer (some ⟨r, 0, none⟩)) false ty).run P w = .ok (.tuple #[.bool false]) w) ∨
    ∃ key v kl d ps w' cnt', keyOf P k key = some kl ∧ S key ∧ R v = some (d, ps) ∧ G key = some d ∧ (Instr.next (.pointer (some ⟨r, 0, none⟩)) false ty).run P w = .ok (.tuple #[.bool true, key, v]) w' ∧
      RangeIs w' P k R b r n G (fun x => S x ∧ x ≠ key) cnt' ∧ cnt' < cnt ∧ w.grownBy w' (some r) ∧ w'.heap.size = w.heap.size ∧ (Instr.entry (.pointer (some ⟨r, 0, none⟩))).run P w' = .ok (.tuple #[key, v]) w' := by
  obtain ⟨D, left, h1, h2, h3, h4⟩ := h
  rcases h1.next K ty with ⟨_, hl, hrun⟩ | ⟨key, v, kl, y, w', cnt', hkey, hlk, hv, hat, hrun, hrg, hlt, hgr, hsz, hen⟩
  · refine .inl ⟨fun key kl hkey hS => ?_, hrun⟩
    have h5 := (h4 key kl hkey).2 hS
    rw [hl] at h5
    cases h5
  · refine .inr ⟨key, v, kl, y.1, y.2, w', cnt', hkey, (h4 key kl hkey).1 hlk, hv, ?_, hrun, ⟨D, _, hrg, h2, h3, fun x xl hx => ?_⟩, hlt, hgr, hsz, hen⟩
    · have h5 := h3 key kl hkey
      cases hG : G key with
      | none =>
        rw [hG] at h5
        have h6 := (hat (.lit (.bool true))).symm.trans (h5 _)
        have h7 := (hat (.lit (.bool false))).symm.trans (h5 _)
        rw [h6] at h7; cases h7
      | some d =>
        rw [hG] at h5
        rw [← hat .nil, h5]
    · rw [Bool.and_eq_true, h4 x xl hx]
      refine and_congr_right fun _ => ?_
      constructor
      · intro h5 e
        subst e
        have : xl = kl := by rw [hx] at hkey; exact Option.some.inj hkey
        subst this
        rw [WideAt.sameKey_self (K.key hx)] at h5
        cases h5
      · intro h5
        cases hs : xl.sameKey kl with
        | false => rfl
        | true =>
          have := WideAt.sameKey_eq hs
          subst this
          exact absurd (K.inj hx hkey) h5
theorem RangeIs.entry (h : RangeIs w P k R b r n G S cnt) {v : Value} (he : (Instr.entry (.pointer (some ⟨r, 0, none⟩))).run P w = .ok v w) (hb : w'.heap[b]? = w.heap[b]?) (hr : w'.heap[r]? = w.heap[r]?) : (Instr.entry (.pointer (some ⟨r, 0, none⟩))).run P w' = .ok v w' := by
  obtain ⟨D, left, ⟨es, clock, since, seen, c0, h1, h2, h3, h4, h5, h6⟩, h7⟩ := h
  have hb1 := hb.trans h1
  have hr1 := hr.trans h5
  simp only [Instr.entry, getObj, Sem.run_bind, Sem.run, h5, Result.andThen] at he
  simp only [Instr.entry, getObj, Sem.run_bind, Sem.run, hr1, Result.andThen]
  cases hs : seen.back? with
  | none => simp only [hs] at he; cases he
  | some stamp =>
    simp only [hs, Sem.run_bind, Sem.run, h1, Result.andThen] at he
    simp only [hs, Sem.run_bind, Sem.run, hb1, Result.andThen]
    split at he
    · cases he
    · rename_i hc
      rw [if_neg hc]
      cases hf : es.find? (fun x => x.born == stamp) with
      | none => rw [hf] at he; cases he
      | some e =>
        rw [hf] at he
        simp only [Sem.run_pure, Result.ok.injEq, and_true] at he ⊢
        exact he
end
end Av
end Go.Proofs.YticnppnejafhdaaGreatDoor
/- Abstract states: maps that the frame holds besides. Generic. -/
namespace Go.Proofs.YticnppnejafhdaaGreatDoor
open Go.RowKit Go.Maps
open Go.Maps (Keyed)
namespace Av

/-- All blocks of it. -/
def Ext.all (A : Ext) (b : Nat) : Prop := A.foot b ∨ A.froz b
def Ext.and (A B : Ext) : Ext where
  foot b := A.foot b ∨ B.foot b
  froz b := A.froz b ∨ B.froz b
  holds w := A.holds w ∧ B.holds w ∧ ∀ b, A.all b → ¬ B.all b
  stable h hw := ⟨A.stable (fun b hb => h b (hb.elim (fun h => .inl (.inl h)) (fun h => .inr (.inl h)))) hw.1, B.stable (fun b hb => h b (hb.elim (fun h => .inl (.inr h)) (fun h => .inr (.inr h)))) hw.2.1, hw.2.2⟩
  laid w := A.laid w ∧ B.laid w
theorem Turn.all {A A' : Ext} {w w1 : World} (ht : Turn A w w1 A') {b : Nat} (hb : A'.all b) : A.all b ∨ (w.heap.size ≤ b ∧ b < w1.heap.size) := by
  rcases hb with hb | hb
  · exact (ht.foot b hb).elim (fun h => .inl (.inl h)) .inr
  · exact (ht.froz b hb).elim (fun h => .inl (.inl h)) (fun h => h.elim (fun h => .inl (.inr h)) .inr)
theorem Turn.left {A A' B : Ext} {w w1 : World} (hl : ∀ b, B.all b → b < w.heap.size) (hh : (A.and B).holds w) (ht : Turn A w w1 A') : Turn (A.and B) w w1 (A'.and B) := by
  obtain ⟨_, h2, h3⟩ := hh
  have hk : ∀ b, B.all b → ¬ A.foot b := fun b hb ha => h3 b (.inl ha) hb
  refine ⟨ht.os, ht.tape, ht.output, ht.size, fun k hk' hn => ht.block k hk' (fun ha => hn (.inl ha)), ⟨ht.holds, B.stable (fun b hb => ht.block b (hl b hb) (hk b hb)) h2, fun b ha hb => ?_⟩, fun b hb => ?_, fun b hb => ?_, fun w0 h => ⟨ht.laid w0 h.1, h.2⟩⟩
  · rcases ht.all ha with h | h
    · exact h3 b h hb
    · have := hl b hb; omega
  · rcases hb with hb | hb
    · rcases ht.foot b hb with h | h
      · exact .inl (.inl h)
      · exact .inr h
    · exact .inl (.inr hb)
  · rcases hb with hb | hb
    · rcases ht.froz b hb with h | h | h
      · exact .inl (.inl h)
      · exact .inr (.inl (.inl h))
      · exact .inr (.inr h)
    · exact .inr (.inl (.inr hb))
theorem Turn.right {A B B' : Ext} {w w1 : World} (hl : ∀ b, A.all b → b < w.heap.size) (hh : (A.and B).holds w) (ht : Turn B w w1 B') : Turn (A.and B) w w1 (A.and B') := by
  obtain ⟨h1, _, h3⟩ := hh
  have hk : ∀ b, A.all b → ¬ B.foot b := fun b ha hb => h3 b ha (.inl hb)
  refine ⟨ht.os, ht.tape, ht.output, ht.size, fun k hk' hn => ht.block k hk' (fun ha => hn (.inr ha)), ⟨A.stable (fun b hb => ht.block b (hl b hb) (hk b hb)) h1, ht.holds, fun b ha hb => ?_⟩, fun b hb => ?_, fun b hb => ?_, fun w0 h => ⟨h.1, ht.laid w0 h.2⟩⟩
  · rcases ht.all hb with h | h
    · exact h3 b ha h
    · have := hl b ha; omega
  · rcases hb with hb | hb
    · exact .inl (.inl hb)
    · rcases ht.foot b hb with h | h
      · exact .inl (.inr h)
      · exact .inr h
  · rcases hb with hb | hb
    · exact .inr (.inl (.inl hb))
    · rcases ht.froz b hb with h | h | h
      · exact .inl (.inr h)
      · exact .inr (.inl (.inr h))
      · exact .inr (.inr h)
/-- Something new besides. -/
theorem Turn.more {A B : Ext} {w w1 : World} (hl : ∀ b, A.all b → b < w.heap.size) (hh : A.holds w) (ht : Turn Ext.nil w w1 B) : Turn A w w1 (A.and B) := by
  have hB : ∀ b, B.all b → w.heap.size ≤ b ∧ b < w1.heap.size := fun b hb => (ht.all hb).resolve_left (fun h => h.elim (fun h => h.elim) (fun h => h.elim))
  refine ⟨ht.os, ht.tape, ht.output, ht.size, fun k hk' _ => ht.block k hk' (fun h => h.elim), ⟨A.stable (fun b hb => ht.block b (hl b hb) (fun h => h.elim)) hh, ht.holds, fun b ha hb => ?_⟩, fun b hb => ?_, fun b hb => ?_, fun w0 h => ⟨h, ht.laid w0 trivial⟩⟩
  · have := hl b ha; have := hB b hb; omega
  · rcases hb with hb | hb
    · exact .inl hb
    · exact .inr (hB b (.inl hb))
  · rcases hb with hb | hb
    · exact .inr (.inl hb)
    · exact .inr (.inr (hB b (.inr hb)))
section
variable {P : Program} {k : TypeId} {R : MReader}
theorem rep_of_ints {R : Reader} : ∀ {xs : List Value}, (∀ x ∈ xs, x.oneCell' = true) → RepL R (xs.map PV.v) xs
  | [], _ => .nil
  | _ :: _, h => .cons (.v _ (h _ List.mem_cons_self)) (rep_of_ints fun x hx => h x (List.mem_cons_of_mem _ hx))
theorem Turn.grown {A B : Ext} {w w1 : World} {b : Nat} (hg : w.grownBy w1 (some b)) (hA : A.foot b) (hB : B.holds w1) (hf : ∀ x, B.foot x → A.foot x) (hz : ∀ x, B.froz x → A.foot x ∨ A.froz x) (hl : ∀ w0, A.laid w0 → B.laid w0 := by intros; repeat' (first | assumption | trivial | constructor)) : Turn A w w1 B :=
  ⟨hg.os, hg.tape, hg.output, hg.size, fun j hj hn => hg.block j hj (fun e => hn (by cases e; exact hA)), hB, fun x hx => .inl (hf x hx), fun x hx => (hz x hx).elim .inl (fun h => .inr (.inl h)), hl⟩
variable {n d : Nat} {σ : St} {o : Oper} {K : St → Prop}
end
end Av
end Go.Proofs.YticnppnejafhdaaGreatDoor
/- Abstract states: boxes whose names are their blocks' numbers (and a million): pointers that lie in maps. Generic. -/
namespace Go.Proofs.YticnppnejafhdaaGreatDoor
open Go.RowKit Go.Maps
open Go.Maps (Keyed)
namespace Av

def ren1 (kb g k : Nat) : Nat := if k = kb then g else k
def AV.ren (kb g : Nat) : AV → AV
  | .ref k off => .ref (ren1 kb g k) off
  | .clo f caps => .clo f (caps.map fun c => (ren1 kb g c.1, c.2))
  | x => x
/-- Box kb is called g. -/
def St.ren (σ : St) (kb g : Nat) : St := { slot := σ.slot.map fun x => (x.1, x.2.ren kb g), box := σ.box.map fun x => (ren1 kb g x.1, x.2), own := σ.own, ext := σ.ext }
def Gh.ren (γ : Gh) (kb g : Nat) : Gh := { γ with bx := fun j => if j = g then γ.bx kb else γ.bx j }
theorem look_map {α : Type} (f : α → α) : ∀ (l : List (Nat × α)) (t : Nat), look (l.map fun x => (x.1, f x.2)) t = (look l t).map f
  | [], _ => rfl
  | x :: l, t => by
    rw [List.map_cons, look_cons, look_map f l t]
    obtain ⟨k, y⟩ := x
    rw [look_cons]
    split <;> rfl
theorem look_ren {α : Type} {kb g : Nat} (hne : kb ≠ g) : ∀ {l : List (Nat × α)}, look l g = none → ∀ j, look (l.map fun x => (ren1 kb g x.1, x.2)) j = if j = g then look l kb else if j = kb then none else look l j
  | [], _, j => by simp [look]
  | (k, x) :: l, hg, j => by
    rw [look_cons] at hg
    by_cases hkg : k = g
    · rw [if_pos hkg] at hg; cases hg
    · rw [if_neg hkg] at hg
      rw [List.map_cons, look_cons, look_ren hne hg j, look_cons, look_cons]
      unfold ren1
      dsimp only
      by_cases hk : k = kb
      · subst hk
        rw [if_pos rfl, if_pos rfl]
        by_cases hj : j = g
        · subst hj; rw [if_pos rfl, if_pos rfl]
        · rw [if_neg (fun e => hj e.symm), if_neg hj, if_neg hj]
          by_cases hjk : j = k
          · rw [if_pos hjk, if_pos hjk]
          · rw [if_neg hjk, if_neg hjk, if_neg (fun e => hjk e.symm)]
      · rw [if_neg hk, if_neg hk]
        by_cases hj : j = g
        · subst hj; rw [if_neg hkg, if_pos rfl, if_pos rfl]
        · rw [if_neg hj, if_neg hj]
          by_cases hjk : j = kb
          · subst hjk; rw [if_neg hk, if_pos rfl, if_pos rfl]
          · rw [if_neg hjk, if_neg hjk]
section
variable {P : Program} {F : Fr} {σ : St} {γ : Gh} {a : Act} {w : World}
theorem ren_sl {kb g sz : Nat} {rows : List (List PV)} {x : AV} (h : x.ren kb g = .sl sz rows) : x = .sl sz rows := by
  cases x <;> first | exact h | cases h
theorem Rel.ren (h : Rel F σ γ a w) {kb g : Nat} (hk : (look σ.box kb).isSome) (hkb : kb < 1000000) (hg : γ.bx kb = g) (hno : ∀ off, lookL σ.own (.b kb off) = none) : look σ.box (g + 1000000) = none ∧ Rel F (σ.ren kb (g + 1000000)) (γ.ren kb (g + 1000000)) a w := by
  have hnone : look σ.box (g + 1000000) = none := by
    cases hq : look σ.box (g + 1000000) with
    | none => rfl
    | some cs =>
      have h1 := h.dyn (g + 1000000) (by rw [hq]; rfl) (by omega)
      have := h.boxinj kb (g + 1000000) hk (by rw [hq]; rfl) (by rw [h1, hg]; omega)
      omega
  have hne : kb ≠ g + 1000000 := by omega
  have hb := fun j => look_ren (l := σ.box) hne hnone j
  have hbx : ∀ j, look (σ.ren kb (g + 1000000)).box j = if j = g + 1000000 then look σ.box kb else if j = kb then none else look σ.box j := hb
  have hsl : ∀ t, look (σ.ren kb (g + 1000000)).slot t = (look σ.slot t).map (·.ren kb (g + 1000000)) := fun t => look_map _ _ t
  have hγ : ∀ j, (γ.ren kb (g + 1000000)).bx j = if j = g + 1000000 then γ.bx kb else γ.bx j := fun j => rfl
  have hown : ∀ L e, lookL σ.own L = some e → ∀ k off, L = .b k off → k ≠ kb ∧ k ≠ g + 1000000 := fun L e hL k off hLk => by
    subst hLk
    refine ⟨fun e' => (by subst e'; rw [hno] at hL; cases hL), fun e' => ?_⟩
    subst e'
    obtain ⟨rows, v, h1, _⟩ := h.owns _ e.1 e.2 hL
    simp [St.avAt, hnone] at h1
  have hav : ∀ L e, lookL σ.own L = some e → ∀ sz rows, (σ.ren kb (g + 1000000)).avAt L = some (.sl sz rows) ↔ σ.avAt L = some (.sl sz rows) := fun L e hL sz rows => by
    cases L with
    | s t =>
      show look (σ.ren kb (g + 1000000)).slot t = _ ↔ look σ.slot t = _
      rw [hsl]
      constructor
      · intro h1
        obtain ⟨x, h2, h3⟩ := Option.map_eq_some_iff.1 h1
        rw [h2, ren_sl h3]
      · intro h1; rw [h1]; rfl
    | b k off =>
      obtain ⟨h1, h2⟩ := hown _ e hL k off rfl
      simp only [St.avAt, hbx, if_neg h1, if_neg h2]
  have hle : ∀ p v, rdr F.R0 F.w0.heap.size σ γ w p = some v → rdr F.R0 F.w0.heap.size (σ.ren kb (g + 1000000)) (γ.ren kb (g + 1000000)) w p = some v := by
    refine rdr_le fun p v _ hm hc => ⟨fun hm' => hm ?_, hc⟩
    rcases hm' with ⟨j, cs, hj, hp⟩ | ⟨L, e, sz, rows, h1, h2, h3, h4⟩ | hx
    · rw [hbx] at hj
      rw [hγ] at hp
      by_cases hjg : j = g + 1000000
      · rw [if_pos hjg] at hj hp; exact .inl ⟨kb, cs, hj, hp⟩
      · rw [if_neg hjg] at hj hp
        by_cases hjk : j = kb
        · rw [if_pos hjk] at hj; cases hj
        · rw [if_neg hjk] at hj; exact .inl ⟨j, cs, hj, hp⟩
    · exact .inr (.inl ⟨L, e, sz, rows, h1, (hav L _ h1 sz rows).1 h2, h3, h4⟩)
    · exact .inr (.inr hx)
  have hbox : ∀ j, (look (σ.ren kb (g + 1000000)).box j).isSome → ∃ j0, (look σ.box j0).isSome ∧ look (σ.ren kb (g + 1000000)).box j = look σ.box j0 ∧ (γ.ren kb (g + 1000000)).bx j = γ.bx j0 ∧ j0 ≠ g + 1000000 ∧ j = ren1 kb (g + 1000000) j0 := fun j hj => by
    rw [hbx] at hj
    by_cases hjg : j = g + 1000000
    · exact ⟨kb, hk, by rw [hbx, if_pos hjg], by rw [hγ, if_pos hjg], hne, by rw [ren1, if_pos rfl]; exact hjg⟩
    · rw [if_neg hjg] at hj
      by_cases hjk : j = kb
      · rw [if_pos hjk] at hj; cases hj
      · rw [if_neg hjk] at hj
        exact ⟨j, hj, by rw [hbx, if_neg hjg, if_neg hjk], by rw [hγ, if_neg hjg], hjg, by rw [ren1, if_neg hjk]⟩
  have href : ∀ j, (look σ.box j).isSome → (look (σ.ren kb (g + 1000000)).box (ren1 kb (g + 1000000) j)).isSome ∧ (γ.ren kb (g + 1000000)).bx (ren1 kb (g + 1000000) j) = γ.bx j := fun j hj => by
    unfold ren1
    by_cases hjk : j = kb
    · subst hjk; rw [if_pos rfl, hbx, hγ, if_pos rfl, if_pos rfl]; exact ⟨hj, rfl⟩
    · have hjg : j ≠ g + 1000000 := fun e => by subst e; rw [hnone] at hj; cases hj
      rw [if_neg hjk, hbx, hγ, if_neg hjg, if_neg hjk, if_neg hjg]
      exact ⟨hj, rfl⟩
  refine ⟨hnone, h.defers, h.size, h.below, h.r0, fun t x hx => ?_, fun j cs hj => ?_, fun j j' hj hj' he => ?_, fun L e sz hL => ?_, h.rowinj, fun L j g' hL hj hg' => ?_, h.exth, fun b hb' => ?_, h.small, fun j hj hd => ?_, h.laid⟩
  · rw [hsl] at hx
    obtain ⟨y, hy, rfl⟩ := Option.map_eq_some_iff.1 hx
    obtain ⟨h1, h2⟩ := h.slots t y hy
    cases y with
    | ref j off =>
      obtain ⟨h3, h4⟩ := href j (h2 j (by simp [AV.refs]))
      refine ⟨?_, fun k hk' => by simp [AV.ren, AV.refs] at hk'; subst hk'; exact h3⟩
      show _ = Value.pointer _
      rw [h4]; exact h1
    | clo f caps =>
      refine ⟨?_, fun k hk' => ?_⟩
      · show _ = Value.func _ _ _
        rw [show a.tmps.getD t undef = _ from h1, List.map_map]
        congr 2
        refine List.map_congr_left fun c hc => ?_
        have := (href c.1 (h2 c.1 (List.mem_map_of_mem hc))).2
        simp only [Function.comp]
        rw [this]
      · simp only [AV.ren, AV.refs, List.map_map] at hk'
        obtain ⟨c, hc, rfl⟩ := List.mem_map.1 hk'
        exact (href c.1 (h2 c.1 (List.mem_map_of_mem hc))).1
    | v x => exact ⟨h1, fun k hk' => by cases hk'⟩
    | sl sz rows => exact ⟨RepP.mono hle h1, fun k hk' => by cases hk'⟩
    | agg xs => exact ⟨RepA.mono (x := .agg xs) (bx := γ.bx) hle (fun k hk' => by cases hk') h1, fun k hk' => by cases hk'⟩
    | tup vs => exact ⟨RepA.mono (x := .tup vs) (bx := γ.bx) hle (fun k hk' => by cases hk') h1, fun k hk' => by cases hk'⟩
    | ept row => exact ⟨RepA.mono (x := .ept row) (bx := γ.bx) hle (fun k hk' => by cases hk') h1, fun k hk' => by cases hk'⟩
    | fnv f caps => exact ⟨RepA.mono (x := .fnv f caps) (bx := γ.bx) hle (fun k hk' => by cases hk') h1, fun k hk' => by cases hk'⟩
  · obtain ⟨j0, h1, h2, h3, _⟩ := hbox j (by rw [hj]; rfl)
    rw [h2] at hj
    obtain ⟨us, ty, h4, h5, h6⟩ := h.boxes j0 cs hj
    rw [h3]
    exact ⟨us, ty, h4, h5, h6.mono hle⟩
  · obtain ⟨j0, h1, _, h3, _, h5⟩ := hbox j hj
    obtain ⟨j1, h1', _, h3', _, h5'⟩ := hbox j' hj'
    rw [h3, h3'] at he
    rw [h5, h5', h.boxinj j0 j1 h1 h1' he]
  · obtain ⟨rows, v, h1, h2, h3⟩ := h.owns L e sz hL
    refine ⟨rows, v, (hav L _ hL sz rows).2 h1, ?_, h3⟩
    cases L with
    | s t => exact h2
    | b k off =>
      obtain ⟨h4, h5⟩ := hown _ _ hL k off rfl
      show w.cell? ⟨(γ.ren kb (g + 1000000)).bx k, off, none⟩ = some v
      rw [hγ, if_neg h5]; exact h2
  · obtain ⟨j0, h1, _, h3, _⟩ := hbox j hj
    rw [h3]
    exact h.rowbox L j0 g' hL h1 hg'
  · obtain ⟨h1, h2, h3, h4⟩ := h.extf b hb'
    refine ⟨h1, h2, fun j hj => ?_, h4⟩
    obtain ⟨j0, h5, _, h6, _⟩ := hbox j hj
    rw [h6]; exact h3 j0 h5
  · obtain ⟨j0, h1, _, h3, h4, h5⟩ := hbox j hj
    rw [h3]
    unfold ren1 at h5
    by_cases hjk : j0 = kb
    · rw [if_pos hjk] at h5; rw [hjk, hg, h5]; omega
    · rw [if_neg hjk] at h5; rw [h5] at hd ⊢; exact h.dyn j0 h1 hd
/-- A slice that is nil is owned. -/
theorem Rel.ownNil (h : Rel F σ γ a w) {L0 : Loc} {e0 : TypeId} {sz0 : Nat} (hav0 : σ.avAt L0 = some (.sl sz0 [])) (hval : valAt a w γ L0 = some (.slice none 0 0)) : Rel F { σ with own := (L0, (e0, sz0)) :: delL σ.own L0 } (γ.setRow L0 none) a w := by
  have hlk : ∀ L, lookL ((L0, (e0, sz0)) :: delL σ.own L0) L = if L = L0 then some (e0, sz0) else lookL σ.own L := fun L => by
    rw [lookL_cons, lookL_del]
    by_cases h1 : L = L0
    · rw [if_pos h1.symm, if_pos h1]
    · rw [if_neg (fun e => h1 e.symm), if_neg h1, if_neg h1]
  have hrw : ∀ L, (γ.setRow L0 none).rw L = if L = L0 then none else γ.rw L := fun L => rfl
  have hold : ∀ L g, (lookL ((L0, (e0, sz0)) :: delL σ.own L0) L).isSome → (γ.setRow L0 none).rw L = some g → L ≠ L0 ∧ (lookL σ.own L).isSome ∧ γ.rw L = some g := fun L g hL hg => by
    rw [hrw] at hg
    by_cases h1 : L = L0
    · rw [if_pos h1] at hg; cases hg
    · rw [if_neg h1] at hg
      rw [hlk, if_neg h1] at hL
      exact ⟨h1, hL, hg⟩
  have hle : ∀ p v, rdr F.R0 F.w0.heap.size σ γ w p = some v → rdr F.R0 F.w0.heap.size { σ with own := (L0, (e0, sz0)) :: delL σ.own L0 } (γ.setRow L0 none) w p = some v :=
    rdr_le fun p v _ hm hc => ⟨fun hm' => hm (by
      rcases hm' with hm' | ⟨L, e', sz, rows, h1, h2, h3, h4⟩ | hx
      · exact .inl hm'
      · obtain ⟨h5, h6, h7⟩ := hold L _ (by rw [show lookL _ L = _ from h1]; rfl) h3
        have h8 := h1
        dsimp only at h8
        rw [hlk, if_neg h5] at h8
        exact .inr (.inl ⟨L, e', sz, rows, h8, by cases L <;> exact h2, h7, h4⟩)
      · exact .inr (.inr hx)), hc⟩
  refine ⟨h.defers, h.size, h.below, h.r0, fun t x hx => ?_, fun k cs hk => ?_, h.boxinj, fun L e' sz hL => ?_, fun L L' g hL hL' hg hg' => ?_, fun L k g hL hk hg => ?_, h.exth, fun b hb => ?_, h.small, h.dyn, h.laid⟩
  · obtain ⟨h1, h2⟩ := h.slots t x hx
    exact ⟨h1.mono hle (fun _ _ => rfl), h2⟩
  · obtain ⟨us, ty, h1, h2, h3⟩ := h.boxes k cs hk
    exact ⟨us, ty, h1, h2, h3.mono hle⟩
  · dsimp only at hL
    rw [hlk] at hL
    by_cases h1 : L = L0
    · rw [if_pos h1] at hL
      cases hL
      subst h1
      exact ⟨[], .slice none 0 0, by cases L <;> exact hav0, by cases L <;> exact hval, by rw [hrw, if_pos rfl]; exact ⟨rfl, rfl⟩⟩
    · rw [if_neg h1] at hL
      obtain ⟨rows, v, h3, h4, h5⟩ := h.owns L e' sz hL
      exact ⟨rows, v, by cases L <;> exact h3, by cases L <;> exact h4, by rw [hrw, if_neg h1]; exact h5⟩
  · obtain ⟨_, h1, h2⟩ := hold L g hL hg
    obtain ⟨_, h3, h4⟩ := hold L' g hL' hg'
    exact h.rowinj L L' g h1 h3 h2 h4
  · obtain ⟨_, h1, h2⟩ := hold L g hL hg
    exact h.rowbox L k g h1 hk h2
  · obtain ⟨h1, h2, h3, h4⟩ := h.extf b hb
    refine ⟨h1, h2, h3, fun L hL e => ?_⟩
    obtain ⟨_, h5, h6⟩ := hold L b hL e
    exact h4 L h5 h6
theorem repL_setNil {R : Reader} {sz : Nat} : ∀ {cs : List PV} {us : List Value} {off : Nat}, RepL R cs us → cs[off]? = some (.v (.slice none 0 0)) → RepL R (setAt cs off [.sl sz []]) us ∧ us[off]? = some (.slice none 0 0)
  | [], _, off, h, hx => by simp at hx
  | c :: cs, _, 0, .cons h1 h2, hx => by
    simp at hx
    subst hx
    cases h1
    refine ⟨?_, rfl⟩
    show RepL R (([] : List PV) ++ [PV.sl sz []] ++ cs) _
    exact .cons (.sl sz [] none 0 (fun _ _ => undef) (fun k row hk => by simp at hk) (.inl rfl) (fun k row _ _ hk => by simp at hk) (Nat.le_refl _)) h2
  | c :: cs, _, off + 1, .cons h1 h2, hx => by
    obtain ⟨h3, h4⟩ := repL_setNil (off := off) (sz := sz) h2 (by simpa using hx)
    refine ⟨?_, by simpa using h4⟩
    have : setAt (c :: cs) (off + 1) [PV.sl sz []] = c :: setAt cs off [PV.sl sz []] := by simp [setAt]
    rw [this]
    exact .cons h1 h3
/-- A nil slice in a box's cell is owned. -/
theorem awp_nilB {c : Code} {Q : AX → St → Prop} (k off sz : Nat) (e : TypeId) {cs : List PV} (hk : look σ.box k = some cs) (hc : cs[off]? = some (.v (.slice none 0 0)))
    (hw : AWp P F c Q { (σ.setBox k (setAt cs off [.sl sz []]) (keepL σ.own k off 1)) with own := (.b k off, (e, sz)) :: delL (keepL σ.own k off 1) (.b k off) }) : AWp P F c Q σ := fun γ a w hr => by
  obtain ⟨us, ty, h1, h2, h3⟩ := hr.boxes k cs hk
  obtain ⟨h4, h5⟩ := repL_setNil (sz := sz) h3 hc
  have hr1 := hr.rebox hk h1 h1 (fun _ _ => rfl) rfl rfl rfl rfl h4 (own' := keepL σ.own k off 1) (fun L x hL => by
    obtain ⟨g1, g2⟩ := lookL_keep hL
    refine ⟨g1, fun o ho => ⟨?_, rfl⟩⟩
    have hlt : off < cs.length := (List.getElem?_eq_some_iff.1 hc).1
    exact setAt_out (by simp; omega) (by simpa using g2 o ho))
  refine hw _ a w (hr1.ownNil (L0 := .b k off) (e0 := e) (sz0 := sz) ?_ ?_)
  · have hlt : off < cs.length := (List.getElem?_eq_some_iff.1 hc).1
    show ((look (σ.setBox k _ _).box k).bind (·[off]?)).map PV.av = _
    have : look (σ.setBox k (setAt cs off [PV.sl sz []]) (keepL σ.own k off 1)).box k = some (setAt cs off [PV.sl sz []]) := by simp [St.setBox, look_cons]
    rw [this]
    simp only [Option.bind_some]
    unfold setAt
    rw [List.append_assoc, List.getElem?_append_right (by simp; omega)]
    simp [Nat.min_eq_left (Nat.le_of_lt hlt)]
    rfl
  · show w.cell? ⟨γ.bx k, off, none⟩ = _
    rw [cell_of_row w _ off _ ty (0, 0) h1]
    simpa using h5
end
end Av
end Go.Proofs.YticnppnejafhdaaGreatDoor
/- Abstract states: regions that draw their order and store one result late. Generic. -/
namespace Go.Proofs.YticnppnejafhdaaGreatDoor
open Go.RowKit
namespace Av
section
variable {P : Program} {ops : Array Oper} {Q : Exit → Act → World → Prop}
end
section
variable {P : Program} {F : Fr}
def stored (σ : St) (k : Nat) (cs xs : List PV) : St := { slot := σ.slot, box := (k, setAt cs 0 xs) :: σ.box, own := keepL σ.own k 0 xs.length, ext := σ.ext }
end
end Av
end Go.Proofs.YticnppnejafhdaaGreatDoor
/- Abstract states: a call that is walked by hand; a box that gets its block's number as its name. Generic. -/
namespace Go.Proofs.YticnppnejafhdaaGreatDoor
open Go.RowKit
namespace Av
section
variable {P : Program} {F : Fr} {σ : St} {γ : Gh} {a : Act} {w : World}
/-- A call by hand. -/
theorem hand_call {n : Nat} {o : Oper} {d : Nat} {K : St → Prop} (hd : o.dst = some d)
    (h : ∀ (F : Fr) (γ : Gh) (a : Act) (w : World), F.n = n → Rel F σ γ a w → ∃ fid us, (execOp a.eval o).run P w = .ok (.enter fid us) w ∧
      Calls P fid us w fun e w1 => ∃ u σ' γ', e = .returned u ∧ K σ' ∧ Rel F σ' γ' (a.put (some d) u) w1) : Hand P n σ o K := by
  intro F γ a w hF hr Q
  obtain ⟨fid, us, hrun, hc⟩ := h F γ a w hF hr
  unfold Oper.wp
  rw [hrun, Oper.upon_enter, hd]
  refine hc.mono ?_
  rintro e w1 ⟨u, σ', γ', rfl, hK, hrel⟩
  exact ⟨σ', γ', hK, hrel⟩
/-- A box gets its block's number (and a million) as its name. -/
theorem awp_ren {c : Code} {Q : AX → St → Prop} (kb : Nat) (hk : (look σ.box kb).isSome) (hkb : kb < 1000000) (hno : ∀ off, lookL σ.own (.b kb off) = none)
    (h : ∀ g, look σ.box (g + 1000000) = none → AWp P F c Q (σ.ren kb (g + 1000000))) : AWp P F c Q σ := fun γ a w hr => by
  obtain ⟨h1, h2⟩ := hr.ren hk hkb rfl hno
  exact h _ h1 _ a w h2
end
end Av
end Go.Proofs.YticnppnejafhdaaGreatDoor
