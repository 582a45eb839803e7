import Derived.Laws.EntriesVeiled
import Derived.Maps.OwnOps
import Derived.Maps.Views
import Derived.Maps.Range
import Derived.Maps.RangeRun
import Derived.WideMake
import Derived.Laws.Pointers
import Derived.WideKeyPair
import Derived.Test.YticnppnejafhdaaGreatDoorZ3
set_option linter.unusedVariables false
set_option linter.unusedSimpArgs false
/- Walks: the powers of a network. -/
namespace Go.Proofs.YticnppnejafhdaaGreatDoor
open Go.RowKit
open Nd Rc Mo

/-- A row of powers, with its place. -/
structure PRow where
  (l : List Int) (A : Option Addr) (c : Nat)
def PRow.row (p : PRow) : List Value := [.slice p.A p.l.length p.c]
def Mo.Lk.row (l : Lk) : List Value := [.int .i64 l.fr, .int .i64 l.tt, .int .i64 l.ls]
def LiesP (w : World) (B : Nat) (P : Option Addr) (pw : List PRow) : Prop := Lies w B 1 P (pw.map PRow.row) ∧ ∀ p ∈ pw, LiesI w B p.A p.l ∧ p.l.length ≤ 1000000
theorem LiesP.later {w w' : World} {P : Option Addr} {pw : List PRow} (h : LiesP w w.heap.size P pw) (hb : Below w.heap.size w w') : LiesP w' w'.heap.size P pw := ⟨(h.1.below hb).more hb.size, fun p hp => ⟨((h.2 p hp).1.below hb).more hb.size, (h.2 p hp).2⟩⟩
theorem idx_any {α : Type} (p : α → Bool) (l : List α) : decide (0 ≤ idxP p l 0) = l.any p := by
  rcases idxP_spec p l 0 with ⟨h1, h2⟩ | ⟨i, a, h1, h2, h3, h4⟩
  · rw [h1, show decide ((0 : Int) ≤ -1) = false from rfl]
    symm
    rw [Bool.eq_false_iff]
    intro h
    obtain ⟨x, hx, hpx⟩ := List.any_eq_true.1 h
    have := List.all_eq_true.1 h2 x hx
    rw [hpx] at this
    cases this
  · rw [h3, show decide ((0 : Int) ≤ 0 + (i : Int)) = true from decide_eq_true (by omega)]
    symm
    exact List.any_eq_true.2 ⟨a, List.mem_of_getElem? h1, h2⟩

set_option maxRecDepth 100000 in
set_option maxHeartbeats 1000000 in
theorem indexI_any (p : Int → Bool) (g : FuncId) (cb : Array Value) (l : List Int) (A : Option Addr) (c : Nat) (w : World) (eg : ∀ args w, (callFunc g args).run Tryz.prog w = .ok (.enter g args) w)
    (hA : Lies w w.heap.size 1 A (l.map irow)) (hl : l.length ≤ 1000000) (hp : ∀ W, Below w.heap.size w W → ∀ a, a ∈ l → Calls Tryz.prog g (#[.int .i64 a] ++ cb) W fun e w' => e = .returned (.bool (p a)) ∧ Below W.heap.size W w') :
    Calls Tryz.prog 122 #[.slice A l.length c, .func (.func g) #[] cb] w fun e w' => e = .returned (.int .i64 (idxP p l 0)) ∧ Below w.heap.size w w' := by
  obtain ⟨n, hn⟩ : ∃ n, n = l.length := ⟨_, rfl⟩
  rw [← hn] at hl ⊢
  have HN := Lib.hid hn
  obtain ⟨T, hT⟩ : ∃ T, T = idxP p l 0 := ⟨_, rfl⟩
  rw [← hT]
  have HT := Lib.hid hT
  have HP := Lib.hid hp
  clear hn hT hp
  go_enter Tryz.func122, Tryz.ntmps122
  go_wp2_with fail
  go_loopw [8] (fun i wr => ∃ (k : Nat), k ≤ n ∧ i = .int .i64 k ∧ Below w.heap.size w wr ∧ Hid (T = idxP p (l.drop k) k)) (fun i _ => n - (intOf i).toNat)
  case atStart => exact ⟨0, Nat.zero_le _, rfl, Below.refl _ _, Lib.hid (by rw [HT.out]; rfl)⟩
  case round =>
    obtain ⟨k, hk, rfl, hb, hst⟩ := hrel
    by_cases hlt : k < n
    · obtain ⟨a, ha⟩ := get_of_lt (l := l) (k := k) (by rw [← HN.out]; exact hlt)
      obtain ⟨b, off, rfl, hbB, hcs⟩ := (Lies.below hA hb).at_ ha
      have c0 := hcs k a ha 0 _ rfl
      simp only [Nat.add_zero, Nat.mul_one] at c0
      have hst' : Hid (T = if p a = true then (k : Int) else idxP p (l.drop (k + 1)) ((k : Int) + 1)) := Lib.hid (by rw [hst.out, drop_of_get ha]; rfl)
      have hcall := HP.out wr hb a (List.mem_of_getElem? ha)
      clear hcs ha hst
      cases hq : p a with
      | true =>
        rw [hq] at hcall
        have hf := Lib.hid (show T = (k : Int) by rw [hst'.out, if_pos hq])
        clear hst' hq
        go_wp2_with (go_at_fn g; refine hcall.mono ?_; rintro e w2 ⟨rfl, hb2⟩)
        go_ret
        exact ⟨ret_int (by rw [hf.out]), hb.trans (hb2.mono hb.size)⟩
      | false =>
        rw [hq] at hcall
        have hf := Lib.hid (show T = idxP p (l.drop (k + 1)) ((k + 1 : Nat) : Int) by rw [hst'.out, if_neg (by rw [hq]; decide)]; rfl)
        clear hst' hq
        go_wp2_with (go_at_fn g; refine hcall.mono ?_; rintro e w2 ⟨rfl, hb2⟩)
        go_roundw
        case rel => exact ⟨k + 1, by omega, by go_num, hb.trans (hb2.mono hb.size), hf⟩
        case measure => simp [intOf]; omega
    · have hf : Hid (T = -1) := Lib.hid (by rw [hst.out, List.drop_of_length_le (by rw [← HN.out]; omega)]; rfl)
      go_wp2_with fail
      go_ret
      exact ⟨ret_int (by rw [hf.out]), hb⟩

theorem contI_any (p : Int → Bool) (g : FuncId) (cb : Array Value) (l : List Int) (A : Option Addr) (c : Nat) (w : World) (eg : ∀ args w, (callFunc g args).run Tryz.prog w = .ok (.enter g args) w)
    (hA : Lies w w.heap.size 1 A (l.map irow)) (hl : l.length ≤ 1000000) (hp : ∀ W, Below w.heap.size w W → ∀ a, a ∈ l → Calls Tryz.prog g (#[.int .i64 a] ++ cb) W fun e w' => e = .returned (.bool (p a)) ∧ Below W.heap.size W w') :
    Calls Tryz.prog 86 #[.slice A l.length c, .func (.func g) #[] cb] w fun e w' => e = .returned (.bool (l.any p)) ∧ Below w.heap.size w w' := by
  have con := indexI_any p g cb l A c w eg hA hl hp
  have HT : Hid (decide (0 ≤ idxP p l 0) = l.any p) := Lib.hid (idx_any p l)
  generalize idxP p l 0 = T at *
  generalize l.any p = R at *
  generalize l.length = n at *
  have Con := Lib.hid con
  clear con hA hp
  go_enter Tryz.func86, Tryz.ntmps86
  go_wp2_with (go_at_call 122; (with_reducible refine Con.out.mono ?_); rintro e w' ⟨rfl, hb⟩)
  go_ret
  exact ⟨ret_bool HT.out, hb⟩

set_option maxRecDepth 100000 in
set_option maxHeartbeats 1000000 in
theorem indexP_any (p : PRow → Bool) (g : FuncId) (cb : Array Value) (l : List PRow) (A : Option Addr) (c : Nat) (w : World) (eg : ∀ args w, (callFunc g args).run Tryz.prog w = .ok (.enter g args) w)
    (hA : Lies w w.heap.size 1 A (l.map PRow.row)) (hl : l.length ≤ 1000000) (hp : ∀ W, Below w.heap.size w W → ∀ a, a ∈ l → Calls Tryz.prog g (#[.slice a.A a.l.length a.c] ++ cb) W fun e w' => e = .returned (.bool (p a)) ∧ Below W.heap.size W w') :
    Calls Tryz.prog 162 #[.slice A l.length c, .func (.func g) #[] cb] w fun e w' => e = .returned (.int .i64 (idxP p l 0)) ∧ Below w.heap.size w w' := by
  obtain ⟨n, hn⟩ : ∃ n, n = l.length := ⟨_, rfl⟩
  rw [← hn] at hl ⊢
  have HN := Lib.hid hn
  obtain ⟨T, hT⟩ : ∃ T, T = idxP p l 0 := ⟨_, rfl⟩
  rw [← hT]
  have HT := Lib.hid hT
  have HP := Lib.hid hp
  clear hn hT hp
  go_enter Tryz.func162, Tryz.ntmps162
  go_wp2_with fail
  go_loopw [8] (fun i wr => ∃ (k : Nat), k ≤ n ∧ i = .int .i64 k ∧ Below w.heap.size w wr ∧ Hid (T = idxP p (l.drop k) k)) (fun i _ => n - (intOf i).toNat)
  case atStart => exact ⟨0, Nat.zero_le _, rfl, Below.refl _ _, Lib.hid (by rw [HT.out]; rfl)⟩
  case round =>
    obtain ⟨k, hk, rfl, hb, hst⟩ := hrel
    by_cases hlt : k < n
    · obtain ⟨a, ha⟩ := get_of_lt (l := l) (k := k) (by rw [← HN.out]; exact hlt)
      obtain ⟨b, off, rfl, hbB, hcs⟩ := (Lies.below hA hb).at_ ha
      have c0 := hcs k a ha 0 _ rfl
      simp only [Nat.add_zero, Nat.mul_one] at c0
      have hst' : Hid (T = if p a = true then (k : Int) else idxP p (l.drop (k + 1)) ((k : Int) + 1)) := Lib.hid (by rw [hst.out, drop_of_get ha]; rfl)
      have hcall := HP.out wr hb a (List.mem_of_getElem? ha)
      clear hcs ha hst
      cases hq : p a with
      | true =>
        rw [hq] at hcall
        have hf := Lib.hid (show T = (k : Int) by rw [hst'.out, if_pos hq])
        clear hst' hq
        go_wp2_with (go_at_fn g; refine hcall.mono ?_; rintro e w2 ⟨rfl, hb2⟩)
        go_ret
        exact ⟨ret_int (by rw [hf.out]), hb.trans (hb2.mono hb.size)⟩
      | false =>
        rw [hq] at hcall
        have hf := Lib.hid (show T = idxP p (l.drop (k + 1)) ((k + 1 : Nat) : Int) by rw [hst'.out, if_neg (by rw [hq]; decide)]; rfl)
        clear hst' hq
        go_wp2_with (go_at_fn g; refine hcall.mono ?_; rintro e w2 ⟨rfl, hb2⟩)
        go_roundw
        case rel => exact ⟨k + 1, by omega, by go_num, hb.trans (hb2.mono hb.size), hf⟩
        case measure => simp [intOf]; omega
    · have hf : Hid (T = -1) := Lib.hid (by rw [hst.out, List.drop_of_length_le (by rw [← HN.out]; omega)]; rfl)
      go_wp2_with fail
      go_ret
      exact ⟨ret_int (by rw [hf.out]), hb⟩

theorem contP_any (p : PRow → Bool) (g : FuncId) (cb : Array Value) (l : List PRow) (A : Option Addr) (c : Nat) (w : World) (eg : ∀ args w, (callFunc g args).run Tryz.prog w = .ok (.enter g args) w)
    (hA : Lies w w.heap.size 1 A (l.map PRow.row)) (hl : l.length ≤ 1000000) (hp : ∀ W, Below w.heap.size w W → ∀ a, a ∈ l → Calls Tryz.prog g (#[.slice a.A a.l.length a.c] ++ cb) W fun e w' => e = .returned (.bool (p a)) ∧ Below W.heap.size W w') :
    Calls Tryz.prog 131 #[.slice A l.length c, .func (.func g) #[] cb] w fun e w' => e = .returned (.bool (l.any p)) ∧ Below w.heap.size w w' := by
  have con := indexP_any p g cb l A c w eg hA hl hp
  have HT : Hid (decide (0 ≤ idxP p l 0) = l.any p) := Lib.hid (idx_any p l)
  generalize idxP p l 0 = T at *
  generalize l.any p = R at *
  generalize l.length = n at *
  have Con := Lib.hid con
  clear con hA hp
  go_enter Tryz.func131, Tryz.ntmps131
  go_wp2_with (go_at_call 162; (with_reducible refine Con.out.mono ?_); rintro e w' ⟨rfl, hb⟩)
  go_ret
  exact ⟨ret_bool HT.out, hb⟩

theorem cpow1_any (p : PRow) (nodes : Int) (g : Nat) (w : World) (hc : w.cell? ⟨g, 0, none⟩ = some (.int .i64 nodes)) :
    Calls Tryz.prog 132 #[.slice p.A p.l.length p.c, .pointer (some ⟨g, 0, none⟩)] w fun e w' => e = .returned (.bool (!(((p.l.length : Nat) : Int) == nodes))) ∧ Below w.heap.size w w' := by
  go_enter Tryz.func132, Tryz.ntmps132
  go_wp2_with fail
  go_ret
  exact ⟨rfl, Below.refl _ _⟩
theorem cpow2_any (x : Int) (w : World) :
    Calls Tryz.prog 133 #[.int .i64 x] w fun e w' => e = .returned (.bool (outP x)) ∧ Below w.heap.size w w' := by
  unfold outP
  go_enter Tryz.func133, Tryz.ntmps133
  go_wp2
  all_goals
    go_ret
    exact ⟨ret_bool (by first | (simp [*]; done) | (simp [*]; omega)), Below.refl _ _⟩
theorem cpow3_any (p : PRow) (g : Nat) (w : World) (hc : w.cell? ⟨g, 0, none⟩ = some (.func (.func 133) #[] #[])) (hp : LiesI w w.heap.size p.A p.l) (hl : p.l.length ≤ 1000000) :
    Calls Tryz.prog 134 #[.slice p.A p.l.length p.c, .pointer (some ⟨g, 0, none⟩)] w fun e w' => e = .returned (.bool (p.l.any outP)) ∧ Below w.heap.size w w' := by
  have con := contI_any outP 133 #[] p.l p.A p.c w (enters_of Tryz.func133 (by kernel_rfl) rfl) hp hl (fun W hW a _ => cpow2_any a W)
  generalize p.l.any outP = R at *
  generalize p.l.length = n at *
  have Con := Lib.hid con
  clear con hp hl
  go_enter Tryz.func134, Tryz.ntmps134
  go_wp2_with (go_at_call 86; (with_reducible refine Con.out.mono ?_); rintro e w' ⟨rfl, hb⟩)
  go_ret
  exact ⟨rfl, hb⟩

set_option maxHeartbeats 2000000 in
theorem cpow_any (nodes noise thr : Int) (pw : List PRow) (lk : List Lk) (mg : List Int) (P L G : Option Addr) (cp cl cg : Nat) (w : World) (hP : LiesP w w.heap.size P pw) (hp : pw.length ≤ 1000000) :
    Calls Tryz.prog 91 #[.agg #[.int .i64 nodes, .slice P pw.length cp, .int .i64 noise, .int .i64 thr, .slice L lk.length cl, .slice G mg.length cg]] w fun e w' => e = .returned (.int .i64 (powE nodes (pw.map PRow.l))) ∧ Below w.heap.size w w' := by
  obtain ⟨np, hnp⟩ : ∃ n, n = pw.length := ⟨_, rfl⟩
  obtain ⟨T, hT⟩ : ∃ T, T = powE nodes (pw.map PRow.l) := ⟨_, rfl⟩
  unfold powE at hT
  rw [List.any_map, List.any_map, List.length_map, ← hnp] at hT
  obtain ⟨N, hN⟩ : ∃ N, N = w.heap.size := ⟨_, rfl⟩
  generalize lk.length = nl at *
  generalize mg.length = nm at *
  rw [← hnp]
  obtain ⟨W1, hW1⟩ : ∃ W1, W1 = w.alloc (.cells #[.int .i64 nodes, .slice P np cp, .int .i64 noise, .int .i64 thr, .slice L nl cl, .slice G nm cg] 26) := ⟨_, rfl⟩
  have hb1 : Below N w W1 := by rw [hW1, hN]; exact (Below.refl _ _).alloc (Nat.le_refl _) _
  have bN : Blk W1 N 26 [.int .i64 nodes, .slice P np cp, .int .i64 noise, .int .i64 thr, .slice L nl cl, .slice G nm cg] := by rw [hW1]; exact Blk.new2 _ [.int .i64 nodes, .slice P np cp, .int .i64 noise, .int .i64 thr, .slice L nl cl, .slice G nm cg] hN
  have HW := Lib.hid (fun W (h' : Below W1.heap.size W1 W) => (show Below w.heap.size w W ∧ Row W N [.int .i64 nodes, .slice P np cp, .int .i64 noise, .int .i64 thr, .slice L nl cl, .slice G nm cg] from ⟨by rw [← hN]; exact hb1.trans (h'.mono (by have := bN.lt; omega)), (bN.below h' bN.lt).row⟩))
  have HP := Lib.hid (fun W (h' : Below W1.heap.size W1 W) => LiesP.later hP (HW.out W h').1)
  have C1 := Lib.hid (fun W (h' : Below W1.heap.size W1 W) => contP_any (fun p => !(((p.l.length : Nat) : Int) == nodes)) 132 #[.pointer (some ⟨N, 0, none⟩)] pw P cp W (enters_of Tryz.func132 (by kernel_rfl) rfl) (HP.out W h').1 hp (fun W2 h2 a _ => cpow1_any a nodes N W2 ((HW.out W2 (h'.trans (h2.mono h'.size))).2 0)))
  have C3 := Lib.hid (fun g W (h' : Below W1.heap.size W1 W) (hg : g < W.heap.size) (hc : W.cell? ⟨g, 0, none⟩ = some (.func (.func 133) #[] #[])) => contP_any (fun p => p.l.any outP) 134 #[.pointer (some ⟨g, 0, none⟩)] pw P cp W (enters_of Tryz.func134 (by kernel_rfl) rfl) (HP.out W h').1 hp (fun W2 h2 a ha => cpow3_any a g W2 ((h2.cell (p := ⟨g, 0, none⟩) hg).trans hc) ((HP.out W2 (h'.trans (h2.mono h'.size))).2 a ha).1 ((HP.out W2 (h'.trans (h2.mono h'.size))).2 a ha).2))
  have HT : Hid (T = if ((np : Nat) : Int) ≠ nodes ∨ (pw.any fun p => !(((p.l.length : Nat) : Int) == nodes)) = true then 1 else if (pw.any fun p => p.l.any outP) = true then 2 else 0) := Lib.hid hT
  rw [← hnp] at C1 C3
  rw [show powE nodes (pw.map PRow.l) = T from by rw [hT]; unfold powE; rw [List.any_map, List.any_map, List.length_map, ← hnp]]
  generalize (pw.any fun p => !(((p.l.length : Nat) : Int) == nodes)) = R1 at *
  generalize (pw.any fun p => p.l.any outP) = R3 at *
  have HW1 := Lib.hid hW1
  have HN := Lib.hid hN
  have hNl := bN.lt
  have r1 : Row (w.alloc (.cells #[.int .i64 nodes, .slice P np cp, .int .i64 noise, .int .i64 thr, .slice L nl cl, .slice G nm cg] 26)) N [.int .i64 nodes, .slice P np cp, .int .i64 noise, .int .i64 thr, .slice L nl cl, .slice G nm cg] := by rw [← hW1]; exact bN.row
  rw [HN.out] at r1
  unfold Row at r1
  clear hT hnp hb1 bN hP hN hW1 HP hp
  go_enter Tryz.func91, Tryz.ntmps91
  clear r1
  by_cases h1 : ((np : Nat) : Int) = nodes
  case neg =>
    have hf : Hid (T = 1) := Lib.hid (by rw [HT.out, if_pos (.inl h1)])
    have h1' : (((np : Nat) : Int) != nodes) = true := by simpa using h1
    clear h1
    go_wp2_with fail
    go_ret
    exact ⟨ret_int (by rw [hf.out]), by rw [← HW1.out]; exact (HW.out _ (Below.refl _ _)).1⟩
  have h1' : (((np : Nat) : Int) != nodes) = false := by simpa using h1
  have HT2 : Hid (T = if R1 = true then 1 else if R3 = true then 2 else 0) := Lib.hid (by rw [HT.out]; simp [h1])
  have C1' := Lib.hid (C1.out _ (Below.refl _ _))
  clear h1 HT C1
  rw [HN.out] at C1'
  rw [HW1.out] at C1'
  go_wp2_with fail
  refine C1'.out.mono ?_
  rintro e w2 ⟨rfl, hb2⟩
  rw [← HW1.out] at hb2
  cases R1 with
  | true =>
    have hf : Hid (T = 1) := Lib.hid (by rw [HT2.out, if_pos rfl])
    go_wp2_with fail
    go_ret
    exact ⟨ret_int (by rw [hf.out]), (HW.out _ hb2).1⟩
  | false =>
    have HT3 : Hid (T = if R3 = true then 2 else 0) := Lib.hid (by rw [HT2.out]; rfl)
    have r2 := (HW.out _ hb2).2
    rw [HN.out] at r2
    unfold Row at r2
    clear HT2 C1'
    go_upto_region 4 with fail
    obtain ⟨g, hg⟩ : ∃ g, g = w2.heap.size := ⟨_, rfl⟩
    generalize hWa : World.alloc _ _ = Wa
    have ba : Blk Wa g 90 [.func (.func 133) #[] #[]] := by rw [← hWa]; exact Blk.new2 90 [.func (.func 133) #[] #[]] hg
    have hba : Below W1.heap.size W1 Wa := by rw [← hWa]; exact hb2.alloc hb2.size _
    have Con := Lib.hid (C3.out g Wa hba ba.lt (ba.row 0))
    have r3 := (HW.out _ hba).2
    rw [HN.out] at r3
    unfold Row at r3
    rw [← hg]
    clear hWa hg r2 C3 ba
    go_wp2_with fail
    refine Con.out.mono ?_
    rintro e w3 ⟨rfl, hb3⟩
    have hB3 : Below W1.heap.size W1 w3 := hba.trans (hb3.mono hba.size)
    cases R3 with
    | true =>
      have hf : Hid (T = 2) := Lib.hid (by rw [HT3.out]; rfl)
      go_wp2_with fail
      go_ret
      exact ⟨ret_int (by rw [hf.out]), (HW.out _ hB3).1⟩
    | false =>
      have hf : Hid (T = 0) := Lib.hid (by rw [HT3.out]; rfl)
      go_wp2_with fail
      go_ret
      exact ⟨ret_int (by rw [hf.out]), (HW.out _ hB3).1⟩
end Go.Proofs.YticnppnejafhdaaGreatDoor
/- Walks: package network: compare, the check of a link. -/
namespace Go.Proofs.YticnppnejafhdaaGreatDoor
open Go.RowKit
open Nd Rc Mo

theorem prevL_eq (q l : Lk) : decide (0 ≤ orI [Rc.cmpI q.fr l.fr, Rc.cmpI q.tt l.tt]) = prevBadL (some q) l := by
  unfold orI orI orI Rc.cmpI prevBadL
  by_cases h1 : q.fr < l.fr
  · have h2 : ¬ l.fr < q.fr := by omega
    have h3 : ¬ q.fr = l.fr := by omega
    simp [h1, h2, h3]
  · by_cases h2 : l.fr < q.fr
    · simp [h1, h2]
    · have h3 : q.fr = l.fr := by omega
      by_cases h4 : q.tt < l.tt
      · have h5 : ¬ l.tt ≤ q.tt := by omega
        simp [h3, h4, h5]
      · have h5 : l.tt ≤ q.tt := by omega
        by_cases h6 : l.tt < q.tt <;> simp [h3, h4, h5, h6]

set_option maxRecDepth 100000 in
set_option maxHeartbeats 1000000 in
theorem ncompare_any (x y : Lk) (w : World) : Calls Tryz.prog 113 #[.agg #[.int .i64 x.fr, .int .i64 x.tt, .int .i64 x.ls], .agg #[.int .i64 y.fr, .int .i64 y.tt, .int .i64 y.ls]] w
    fun e w' => e = .returned (.int .i64 (orI [Rc.cmpI x.fr y.fr, Rc.cmpI x.tt y.tt])) ∧ Below w.heap.size w w' := by
  obtain ⟨f, t, l⟩ := x
  obtain ⟨f', t', l'⟩ := y
  dsimp only
  obtain ⟨W1, hW1⟩ : ∃ W1, W1 = (w.alloc (.cells #[.int .i64 f, .int .i64 t, .int .i64 l] 60)).alloc (.cells #[.int .i64 f', .int .i64 t', .int .i64 l'] 60) := ⟨_, rfl⟩
  have hb1 : Below w.heap.size w W1 := by rw [hW1]; exact ((Below.refl _ _).alloc (Nat.le_refl _) _).alloc (by simp) _
  have b1 : Blk W1 w.heap.size 60 [.int .i64 f, .int .i64 t, .int .i64 l] := by rw [hW1]; exact Blk.alloc (Blk.new2 _ [.int .i64 f, .int .i64 t, .int .i64 l] rfl) _
  have b2 : Blk W1 (w.heap.size + 1) 60 [.int .i64 f', .int .i64 t', .int .i64 l'] := by rw [hW1]; exact Blk.new2 _ [.int .i64 f', .int .i64 t', .int .i64 l'] (by simp)
  have HW1 := Lib.hid hW1
  clear hW1
  go_enter Tryz.func113, Tryz.ntmps113
  go_upto_region 1 with fail
  rw [← HW1.out]
  have x1 := b1.row.ext (B := W1.heap.size) b1.lt
  have x2 := b2.row.ext (B := W1.heap.size) b2.lt
  refine wp_region_ext_tail W1.heap.size 10 (by kernel_rfl) (by kernel_rfl) ?_
  simp only [List.take_succ_cons, List.take_zero, List.drop_succ_cons, List.drop_zero]
  repeat (go_big_quiet_step ((go_at_call 62; exact Calls.ext_same (cmp_any _ _ _))))
  refine wpQuiet_nil ?_
  rintro _ ⟨x, rfl⟩
  have hb' := hb1.trans (x.below.mono hb1.size)
  obtain ⟨W, hW⟩ := x
  go_wp2_with (go_at_call 61; refine (or_any [cmpI f f', cmpI t t'] _ 0 2 _ (by simp) ?_).mono ?_)
  · exact fun k x hx => ints_get hx
  go_ret
  exact ⟨rfl, hb'.alloc (hb'.size) _⟩

theorem clink1_any (a nodes : Int) (g : Nat) (w : World) (hc : w.cell? ⟨g, 0, none⟩ = some (.int .i64 nodes)) :
    Calls Tryz.prog 135 #[.int .i64 a, .pointer (some ⟨g, 0, none⟩)] w fun e w' => e = .returned (.bool (Nd.inB a 0 (nodes - 1))) ∧ Below w.heap.size w w' := by
  have hi : Nd.inB a 0 (nodes - 1) = (decide (0 ≤ a) && decide (a < nodes)) := by
    unfold Nd.inB
    congr 1
    exact decide_eq_decide.2 (by omega)
  rw [hi]
  go_enter Tryz.func135, Tryz.ntmps135
  go_wp2
  all_goals
    go_ret
    exact ⟨ret_bool (by first | (simp [*]; done) | (simp [*]; omega)), Below.refl _ _⟩
end Go.Proofs.YticnppnejafhdaaGreatDoor
/- Walks: package network: checkLink, Check. -/
namespace Go.Proofs.YticnppnejafhdaaGreatDoor
open Go.RowKit
open Nd Rc Mo

/-- The link ahead of the one at i. -/
def prevL (lk : List Lk) (i : Nat) : Option Lk := if i = 0 then none else lk[i - 1]?
theorem pow_at {pw : List PRow} {nodes : Int} (hpn : ((pw.length : Nat) : Int) = nodes) (hrow : ∀ p ∈ pw, ((p.l.length : Nat) : Int) = nodes) {a b : Int} (ha : 0 ≤ a ∧ a ≤ nodes - 1) (hb : 0 ≤ b ∧ b ≤ nodes - 1) :
    ∃ p v, pw[a.toNat]? = some p ∧ p.l[b.toNat]? = some v ∧ powAt (pw.map PRow.l) a b = v := by
  obtain ⟨p, hp⟩ := get_of_lt (l := pw) (k := a.toNat) (by omega)
  have hr := hrow p (List.mem_of_getElem? hp)
  obtain ⟨v, hv⟩ := get_of_lt (l := p.l) (k := b.toNat) (by omega)
  refine ⟨p, v, hp, hv, ?_⟩
  unfold powAt
  rw [List.getD_eq_getElem?_getD, List.getD_eq_getElem?_getD, List.getElem?_map, hp]
  simp [hv]

set_option maxRecDepth 100000 in
set_option maxHeartbeats 4000000 in
theorem clink_any (nodes noise thr : Int) (pw : List PRow) (lk : List Lk) (mg : List Int) (P L G : Option Addr) (cp cl cg : Nat) (i : Nat) (l : Lk) (m : Int) (w : World) (hP : LiesP w w.heap.size P pw) (hp : pw.length ≤ 1000000) (hL : Lies w w.heap.size 3 L (lk.map Lk.row)) (hl : lk.length ≤ 1000000) (hG : LiesI w w.heap.size G mg) (hg : mg.length = lk.length)
    (hpn : ((pw.length : Nat) : Int) = nodes) (hrow : ∀ p ∈ pw, ((p.l.length : Nat) : Int) = nodes) (hi : lk[i]? = some l) (hm : mg[i]? = some m) :
    Calls Tryz.prog 92 #[.agg #[.int .i64 nodes, .slice P pw.length cp, .int .i64 noise, .int .i64 thr, .slice L lk.length cl, .slice G mg.length cg], .int .i64 (i : Nat)] w fun e w' => e = .returned (.int .i64 (lkE nodes (pw.map PRow.l) (prevL lk i) l m)) ∧ Below w.heap.size w w' := by
  obtain ⟨np, hnp⟩ : ∃ n, n = pw.length := ⟨_, rfl⟩
  obtain ⟨nl, hnl⟩ : ∃ n, n = lk.length := ⟨_, rfl⟩
  obtain ⟨nm, hnm⟩ : ∃ n, n = mg.length := ⟨_, rfl⟩
  have hil : i < nl := by rw [hnl]; exact (List.getElem?_eq_some_iff.1 hi).1
  have him : i < nm := by omega
  have hl6 : nl ≤ 1000000 := by omega
  obtain ⟨T, hT⟩ : ∃ T, T = lkE nodes (pw.map PRow.l) (prevL lk i) l m := ⟨_, rfl⟩
  obtain ⟨N, hN⟩ : ∃ N, N = w.heap.size := ⟨_, rfl⟩
  rw [← hT, ← hnp, ← hnl, ← hnm]
  obtain ⟨W1, hW1⟩ : ∃ W1, W1 = w.alloc (.cells #[.int .i64 nodes, .slice P np cp, .int .i64 noise, .int .i64 thr, .slice L nl cl, .slice G nm cg] 26) := ⟨_, rfl⟩
  have hb1 : Below N w W1 := by rw [hW1, hN]; exact (Below.refl _ _).alloc (Nat.le_refl _) _
  have bN : Blk W1 N 26 [.int .i64 nodes, .slice P np cp, .int .i64 noise, .int .i64 thr, .slice L nl cl, .slice G nm cg] := by rw [hW1]; exact Blk.new2 _ [.int .i64 nodes, .slice P np cp, .int .i64 noise, .int .i64 thr, .slice L nl cl, .slice G nm cg] hN
  have HW := Lib.hid (fun W (h' : Below W1.heap.size W1 W) => (show Below w.heap.size w W ∧ Row W N [.int .i64 nodes, .slice P np cp, .int .i64 noise, .int .i64 thr, .slice L nl cl, .slice G nm cg] from ⟨by rw [← hN]; exact hb1.trans (h'.mono (by have := bN.lt; omega)), (bN.below h' bN.lt).row⟩))
  have HP := Lib.hid (fun W (h' : Below W1.heap.size W1 W) => LiesP.later hP (HW.out W h').1)
  have HL := Lib.hid (fun W (h' : Below W1.heap.size W1 W) => (hL.below (HW.out W h').1).more (HW.out W h').1.size)
  have HGm := Lib.hid (fun W (h' : Below W1.heap.size W1 W) => (hG.below (HW.out W h').1).more (HW.out W h').1.size)
  have Con := Lib.hid (fun (a : Int) W (h' : Below W1.heap.size W1 W) => clink1_any a nodes N W ((HW.out W h').2 0))
  have HT := Lib.hid hT
  have HPn := Lib.hid (And.intro hpn hrow)
  have HI := Lib.hid hi
  have HMm := Lib.hid hm
  have HNl := Lib.hid hnl
  have HNm := Lib.hid hnm
  have HNp := Lib.hid hnp
  have HN := Lib.hid hN
  have HW1 := Lib.hid hW1
  have hNl := bN.lt
  have hz1 : W1.heap.size = N + 1 := by rw [hW1, hN]; simp
  obtain ⟨lb, loff, hLe, hlB, hcs⟩ := (HL.out _ (Below.refl _ _)).at_ hi
  have c0 := hcs i l hi 0 _ rfl
  have c1 := hcs i l hi 1 _ rfl
  have c2 := hcs i l hi 2 _ rfl
  simp only [Nat.add_zero] at c0 c1 c2
  have HLe := Lib.hid hLe
  subst hLe
  have r1 := (HW.out _ (Below.refl _ _)).2
  rw [HW1.out] at r1 c0 c1 c2
  rw [HN.out] at r1
  unfold Row at r1
  clear hP hp hL hl hG hg hpn hrow hi hm hT hN hW1 hb1 bN hnl hnm hnp hcs
  go_enter Tryz.func92, Tryz.ntmps92
  go_upto_region 3 with fail
  rw [← HW1.out, ← HN.out]
  clear r1 c0 c1 c2
  obtain ⟨X, hX⟩ : ∃ X, X = N + 1 := ⟨_, rfl⟩
  generalize hWa : World.alloc _ _ = Wa
  have bX : Blk Wa X 60 [.int .i64 l.fr, .int .i64 l.tt, .int .i64 l.ls] := by rw [← hWa]; exact Blk.new2 _ [.int .i64 l.fr, .int .i64 l.tt, .int .i64 l.ls] (by rw [hX, hz1])
  have hBa : Below W1.heap.size W1 Wa := by rw [← hWa]; exact (Below.refl _ _).alloc (Nat.le_refl _) _
  rw [← hX]
  clear hWa hX hz1
  have rX := bX.row
  unfold Row at rX
  go_wp2_with fail
  refine (Con.out _ _ hBa).mono ?_
  rintro e w2 ⟨rfl, hb2⟩
  have hB2 : Below W1.heap.size W1 w2 := hBa.trans (hb2.mono hBa.size)
  have bX2 := bX.below hb2 bX.lt
  clear rX bX
  have rX := bX2.row
  unfold Row at rX
  cases c1 : Nd.inB l.fr 0 (nodes - 1) with
  | false =>
    have hf : Hid (T = 2) := Lib.hid (by rw [HT.out]; unfold lkE; rw [if_pos (by unfold lkB; rw [c1]; rfl)])
    go_wp2_with fail
    go_ret
    exact ⟨ret_int (by rw [hf.out]), (HW.out _ hB2).1⟩
  | true =>
    go_wp2_with fail
    refine (Con.out _ _ hB2).mono ?_
    rintro e w3 ⟨rfl, hb3⟩
    have hB3 : Below W1.heap.size W1 w3 := hB2.trans (hb3.mono hB2.size)
    have bX3 := bX2.below hb3 bX2.lt
    clear rX bX2 hBa hb2 Con
    have rX := bX3.row
    unfold Row at rX
    cases c2 : Nd.inB l.tt 0 (nodes - 1) with
    | false =>
      have hf : Hid (T = 2) := Lib.hid (by rw [HT.out]; unfold lkE; rw [if_pos (by unfold lkB; rw [c1, c2]; rfl)])
      go_wp2_with fail
      go_ret
      exact ⟨ret_int (by rw [hf.out]), (HW.out _ hB3).1⟩
    | true =>
      cases c3 : (l.fr == l.tt) with
      | true =>
        have hf : Hid (T = 2) := Lib.hid (by rw [HT.out]; unfold lkE; rw [if_pos (by unfold lkB; rw [c1, c2, c3]; rfl)])
        go_wp2_with fail
        go_ret
        exact ⟨ret_int (by rw [hf.out]), (HW.out _ hB3).1⟩
      | false =>
        by_cases d4 : l.ls < 0
        · have e4 : decide (l.ls < 0) = true := decide_eq_true d4
          have c4 : Nd.inB l.ls 0 7 = false := by unfold Nd.inB; rw [decide_eq_false (by omega)]; rfl
          have hf : Hid (T = 2) := Lib.hid (by rw [HT.out]; unfold lkE; rw [if_pos (by unfold lkB; rw [c1, c2, c3, c4]; rfl)])
          go_wp2_with fail
          go_ret
          exact ⟨ret_int (by rw [hf.out]), (HW.out _ hB3).1⟩
        have e4 : decide (l.ls < 0) = false := decide_eq_false d4
        by_cases d5 : 7 < l.ls
        · have e5 : decide (7 < l.ls) = true := decide_eq_true d5
          have c4 : Nd.inB l.ls 0 7 = false := by unfold Nd.inB; rw [decide_eq_false (p := l.ls ≤ 7) (by omega), Bool.and_false]
          have hf : Hid (T = 2) := Lib.hid (by rw [HT.out]; unfold lkE; rw [if_pos (by unfold lkB; rw [c1, c2, c3, c4]; rfl)])
          go_wp2_with fail
          go_ret
          exact ⟨ret_int (by rw [hf.out]), (HW.out _ hB3).1⟩
        have e5 : decide (7 < l.ls) = false := decide_eq_false d5
        have c4 : Nd.inB l.ls 0 7 = true := by unfold Nd.inB; rw [decide_eq_true (p := 0 ≤ l.ls) (by omega), decide_eq_true (p := l.ls ≤ 7) (by omega)]; rfl
        have HT2 : Hid (T = if prevBadL (prevL lk i) l = true then 5 else if m < 0 ∨ powAt (pw.map PRow.l) l.fr l.tt < m then 2 else 0) := Lib.hid (by rw [HT.out]; unfold lkE; rw [if_neg (by unfold lkB; rw [c1, c2, c3, c4]; decide)])
        have HI1 := Lib.hid (show (0 ≤ l.fr ∧ l.fr ≤ nodes - 1) ∧ (0 ≤ l.tt ∧ l.tt ≤ nodes - 1) from by
          simp only [Nd.inB, Bool.and_eq_true, decide_eq_true_eq] at c1 c2
          exact ⟨c1, c2⟩)
        clear HT c4 d4 d5 c1 c2
        go_upto_region 5 with fail
        clear rX e4 e5 c3
        have rX3 := bX3.row
        have rN3 := (HW.out _ hB3).2
        have hXl : X < w3.heap.size := bX3.lt
        have hNl3 : N < w3.heap.size := by have := hB3.size; omega
        have HB3s := Lib.hid (Nat.le_refl w3.heap.size)
        have yN : ∀ (x' : ExtW w3.heap.size w3) (j : Nat), x'.val.cell? ⟨N, j, none⟩ = _ := fun x' j => (x'.cell _ hNl3).trans (rN3 j)
        have yX : ∀ (x' : ExtW w3.heap.size w3) (j : Nat), x'.val.cell? ⟨X, j, none⟩ = _ := fun x' j => (x'.cell _ hXl).trans (rX3 j)
        go_cut [43] (fun s43 W => s43 = .bool (prevBadL (prevL lk i) l) ∧ Below w3.heap.size w3 W)
        case first =>
          cases i with
          | zero =>
            refine wp_region_ext w3.heap.size (by kernel_rfl) (by kernel_rfl) ?_
            repeat (go_big_quiet_step (fail))
            refine wpQuiet_nil ?_
            rintro _ ⟨x', rfl⟩
            go_wp2_with fail
            go_meet
            exact ⟨rfl, x'.below⟩
          | succ k =>
            obtain ⟨q, hq⟩ := get_of_lt (l := lk) (k := k) (by have := HNl.out; omega)
            obtain ⟨lb', loff', he', hlB', hcs'⟩ := (HL.out _ hB3).at_ hq
            have hval : prevBadL (prevL lk (k + 1)) l = decide (0 ≤ orI [Rc.cmpI q.fr l.fr, Rc.cmpI q.tt l.tt]) := by
              rw [prevL_eq]
              unfold prevL
              rw [if_neg (by omega), Nat.add_sub_cancel, hq]
            have HVal := Lib.hid hval
            clear hval
            simp only [Option.some.injEq, Addr.mk.injEq, and_true] at he'
            obtain ⟨rfl, rfl⟩ := he'
            have q0 := hcs' k q hq 0 _ rfl
            have q1 := hcs' k q hq 1 _ rfl
            have q2 := hcs' k q hq 2 _ rfl
            simp only [Nat.add_zero] at q0 q1 q2
            have y0 : ∀ (x' : ExtW w3.heap.size w3), x'.val.cell? ⟨lb, loff + k * 3, none⟩ = some (.int .i64 q.fr) := fun x' => (x'.cell _ hlB').trans q0
            have y1 : ∀ (x' : ExtW w3.heap.size w3), x'.val.cell? ⟨lb, loff + k * 3 + 1, none⟩ = some (.int .i64 q.tt) := fun x' => (x'.cell _ hlB').trans q1
            have y2 : ∀ (x' : ExtW w3.heap.size w3), x'.val.cell? ⟨lb, loff + k * 3 + 2, none⟩ = some (.int .i64 q.ls) := fun x' => (x'.cell _ hlB').trans q2
            have Con2 := Lib.hid (fun W => ncompare_any q l W)
            generalize orI [Rc.cmpI q.fr l.fr, Rc.cmpI q.tt l.tt] = V at *
            have hkl : k < nl := by omega
            have hw1 : IntKind.i64.wrap (((k + 1 : Nat) : Int) - 1) = (k : Int) := by rw [IntWalk.i64_in _ (by omega)]; omega
            have hd1 : decide ((0 : Int) < ((k + 1 : Nat) : Int)) = true := decide_eq_true (by omega)
            have hd2 : decide ((0 : Int) < (k : Int) + 1) = true := decide_eq_true (by omega)
            have hw2 : IntKind.i64.wrap ((k : Int) + 1 - 1) = (k : Int) := by rw [IntWalk.i64_in _ (by omega)]; omega
            clear q0 q1 q2 hcs' hq
            refine wp_region_ext w3.heap.size (by kernel_rfl) (by kernel_rfl) ?_
            repeat (go_big_quiet_step ((go_at_call 113; exact Calls.ext_of (Con2.out _) HB3s.out)))
            refine wpQuiet_nil ?_
            rintro _ ⟨x', rfl⟩
            go_wp2_with fail
            go_meet
            exact ⟨by rw [HVal.out], x'.below⟩
        case rest =>
          obtain ⟨rfl, hb4⟩ := hcut
          clear yN yX
          have hB4 : Below W1.heap.size W1 wc := hB3.trans (hb4.mono hB3.size)
          cases hpb : prevBadL (prevL lk i) l with
          | true =>
            have hf : Hid (T = 5) := Lib.hid (by rw [HT2.out, hpb]; rfl)
            go_wp2_with fail
            go_ret
            exact ⟨ret_int (by rw [hf.out]), (HW.out _ hB4).1⟩
          | false =>
            obtain ⟨p, v, hp, hv, hpv⟩ := pow_at HPn.out.1 HPn.out.2 HI1.out.1 HI1.out.2
            have HT3 : Hid (T = if m < 0 ∨ v < m then 2 else 0) := Lib.hid (by rw [HT2.out, hpb, hpv]; rfl)
            obtain ⟨fa, hfa⟩ : ∃ a : Nat, l.fr = (a : Int) := ⟨l.fr.toNat, by have := HI1.out; omega⟩
            obtain ⟨ta, hta⟩ : ∃ a : Nat, l.tt = (a : Int) := ⟨l.tt.toNat, by have := HI1.out; omega⟩
            rw [hfa, Int.toNat_natCast] at hp
            rw [hta, Int.toNat_natCast] at hv
            have hrl : ((p.l.length : Nat) : Int) = nodes := HPn.out.2 p (List.mem_of_getElem? hp)
            obtain ⟨pb, poff, hPe, hpB, hpcs⟩ := (HP.out _ hB4).1.at_ hp
            have pc := hpcs fa p hp 0 _ rfl
            simp only [Nat.mul_one, Nat.add_zero] at pc
            obtain ⟨vb, voff, hVe, hvB, hvc⟩ := ((HP.out _ hB4).2 p (List.mem_of_getElem? hp)).1.at_ hv
            have vc := hvc ta v hv
            obtain ⟨gb, goff, hGe, hgB, hgc⟩ := (HGm.out _ hB4).at_ HMm.out
            have gc := hgc i m HMm.out
            have rN4 := (HW.out _ hB4).2
            have rX4 := (bX3.below hb4 hXl).row
            have hfl : fa < np := by have := HI1.out; have := HPn.out.1; have := HNp.out; omega
            obtain ⟨rl, hrle⟩ : ∃ rl, rl = p.l.length := ⟨_, rfl⟩
            have htl : ta < rl := by have := HI1.out; omega
            rw [← hrle] at pc
            rw [hVe] at pc
            have hXl4 : X < wc.heap.size := Nat.lt_of_lt_of_le hXl hb4.size
            have hNl4 : N < wc.heap.size := Nat.lt_of_lt_of_le hNl3 hb4.size
            subst hPe hGe
            rw [hfa, hta] at rX4
            have yN : ∀ (x' : ExtW wc.heap.size wc) (j : Nat), x'.val.cell? ⟨N, j, none⟩ = _ := fun x' j => (x'.cell _ hNl4).trans (rN4 j)
            have yX : ∀ (x' : ExtW wc.heap.size wc) (j : Nat), x'.val.cell? ⟨X, j, none⟩ = _ := fun x' j => (x'.cell _ hXl4).trans (rX4 j)
            have yp : ∀ (x' : ExtW wc.heap.size wc), x'.val.cell? ⟨pb, poff + fa, none⟩ = some (.slice (some ⟨vb, voff, none⟩) rl p.c) := fun x' => (x'.cell _ hpB).trans pc
            have yv : ∀ (x' : ExtW wc.heap.size wc), x'.val.cell? ⟨vb, voff + ta, none⟩ = some (.int .i64 v) := fun x' => (x'.cell _ hvB).trans vc
            have yg : ∀ (x' : ExtW wc.heap.size wc), x'.val.cell? ⟨gb, goff + i, none⟩ = some (.int .i64 m) := fun x' => (x'.cell _ hgB).trans gc
            clear hpcs pc hvc vc hgc gc rN4 rX4 hpv hrl hfa hta hp hv hrle hVe HT2 hpb
            go_upto_region 7 with fail
            by_cases d6 : m < 0
            · have e6 : decide (m < 0) = true := decide_eq_true d6
              have hf : Hid (T = 2) := Lib.hid (by rw [HT3.out, if_pos (.inl d6)])
              clear d6
              refine wp_region_ext wc.heap.size (by kernel_rfl) (by kernel_rfl) ?_
              repeat (go_big_quiet_step (fail))
              refine wpQuiet_nil ?_
              rintro _ ⟨x', rfl⟩
              have hfin := (HW.out _ (hB4.trans (x'.below.mono hB4.size))).1
              go_wp2_with fail
              go_ret
              exact ⟨ret_int (by rw [hf.out]), hfin⟩
            · have e6 : decide (m < 0) = false := decide_eq_false d6
              by_cases d7 : v < m
              · have e7 : decide (v < m) = true := decide_eq_true d7
                have hf : Hid (T = 2) := Lib.hid (by rw [HT3.out, if_pos (.inr d7)])
                clear d6 d7
                refine wp_region_ext wc.heap.size (by kernel_rfl) (by kernel_rfl) ?_
                repeat (go_big_quiet_step (fail))
                refine wpQuiet_nil ?_
                rintro _ ⟨x', rfl⟩
                have hfin := (HW.out _ (hB4.trans (x'.below.mono hB4.size))).1
                go_wp2_with fail
                go_ret
                exact ⟨ret_int (by rw [hf.out]), hfin⟩
              · have e7 : decide (v < m) = false := decide_eq_false d7
                have hf : Hid (T = 0) := Lib.hid (by rw [HT3.out, if_neg (by omega)])
                clear d6 d7
                refine wp_region_ext wc.heap.size (by kernel_rfl) (by kernel_rfl) ?_
                repeat (go_big_quiet_step (fail))
                refine wpQuiet_nil ?_
                rintro _ ⟨x', rfl⟩
                have hfin := (HW.out _ (hB4.trans (x'.below.mono hB4.size))).1
                go_wp2_with fail
                go_ret
                exact ⟨ret_int (by rw [hf.out]), hfin⟩
end Go.Proofs.YticnppnejafhdaaGreatDoor
/- Walk: package network: Check. -/
namespace Go.Proofs.YticnppnejafhdaaGreatDoor
open Go.RowKit
open Nd Rc Mo

theorem powE_zero {nodes : Int} {pow : List (List Int)} (h : powE nodes pow = 0) : ((pow.length : Nat) : Int) = nodes ∧ (∀ r ∈ pow, ((r.length : Nat) : Int) = nodes) ∧ ∀ r ∈ pow, ∀ p ∈ r, 0 ≤ p ∧ p ≤ 68719476736 := by
  unfold powE at h
  split at h
  · cases h
  · rename_i h1
    split at h
    · cases h
    · rename_i h2
      refine ⟨Classical.byContradiction fun hh => h1 (.inl hh), fun r hr => ?_, fun r hr p hp => ?_⟩
      · refine Classical.byContradiction fun hh => h1 (.inr (List.any_eq_true.2 ⟨r, hr, by simpa using hh⟩))
      · refine Classical.byContradiction fun hh => h2 (List.any_eq_true.2 ⟨r, hr, List.any_eq_true.2 ⟨p, hp, ?_⟩⟩)
        unfold outP
        rw [Bool.or_eq_true, decide_eq_true_eq, decide_eq_true_eq]
        omega
theorem prevL_succ {lk : List Lk} {k : Nat} {l : Lk} (h : lk[k]? = some l) : prevL lk (k + 1) = some l := by
  unfold prevL
  rw [if_neg (by omega), Nat.add_sub_cancel, h]

set_option maxRecDepth 100000 in
set_option maxHeartbeats 4000000 in
theorem netCheck_any (nodes noise thr : Int) (pw : List PRow) (lk : List Lk) (mg : List Int) (P L G : Option Addr) (cp cl cg : Nat) (w : World) (hP : LiesP w w.heap.size P pw) (hp : pw.length ≤ 1000000) (hL : Lies w w.heap.size 3 L (lk.map Lk.row)) (hl : lk.length ≤ 1000000) (hG : LiesI w w.heap.size G mg) (hg : mg.length ≤ 1000000) :
    Calls Tryz.prog 55 #[.agg #[.int .i64 nodes, .slice P pw.length cp, .int .i64 noise, .int .i64 thr, .slice L lk.length cl, .slice G mg.length cg]] w fun e w' => e = .returned (.int .i64 (chkN ⟨nodes, noise, thr, pw.map PRow.l, lk, mg⟩)) ∧ Below w.heap.size w w' := by
  obtain ⟨np, hnp⟩ : ∃ n, n = pw.length := ⟨_, rfl⟩
  obtain ⟨nl, hnl⟩ : ∃ n, n = lk.length := ⟨_, rfl⟩
  obtain ⟨nm, hnm⟩ : ∃ n, n = mg.length := ⟨_, rfl⟩
  obtain ⟨T, hT⟩ : ∃ T, T = chkN ⟨nodes, noise, thr, pw.map PRow.l, lk, mg⟩ := ⟨_, rfl⟩
  obtain ⟨N, hN⟩ : ∃ N, N = w.heap.size := ⟨_, rfl⟩
  rw [← hT, ← hnp, ← hnl, ← hnm]
  unfold chkN at hT
  dsimp only at hT
  rw [← hnl, ← hnm] at hT
  obtain ⟨W1, hW1⟩ : ∃ W1, W1 = w.alloc (.cells #[.int .i64 nodes, .slice P np cp, .int .i64 noise, .int .i64 thr, .slice L nl cl, .slice G nm cg] 26) := ⟨_, rfl⟩
  have hb1 : Below N w W1 := by rw [hW1, hN]; exact (Below.refl _ _).alloc (Nat.le_refl _) _
  have bN : Blk W1 N 26 [.int .i64 nodes, .slice P np cp, .int .i64 noise, .int .i64 thr, .slice L nl cl, .slice G nm cg] := by rw [hW1]; exact Blk.new2 _ [.int .i64 nodes, .slice P np cp, .int .i64 noise, .int .i64 thr, .slice L nl cl, .slice G nm cg] hN
  have HW := Lib.hid (fun W (h' : Below W1.heap.size W1 W) => (show Below w.heap.size w W ∧ Row W N [.int .i64 nodes, .slice P np cp, .int .i64 noise, .int .i64 thr, .slice L nl cl, .slice G nm cg] from ⟨by rw [← hN]; exact hb1.trans (h'.mono (by have := bN.lt; omega)), (bN.below h' bN.lt).row⟩))
  have HPw := Lib.hid (cpow_any nodes noise thr pw lk mg P L G cp cl cg W1 (hP.later (HW.out _ (Below.refl _ _)).1) hp)
  have HLk := Lib.hid (fun (hpn : ((pw.length : Nat) : Int) = nodes) (hrow : ∀ p ∈ pw, ((p.l.length : Nat) : Int) = nodes) (he : mg.length = lk.length) i l m (hi : lk[i]? = some l) (hm : mg[i]? = some m) W (h' : Below W1.heap.size W1 W) => clink_any nodes noise thr pw lk mg P L G cp cl cg i l m W (hP.later (HW.out W h').1) hp ((hL.below (HW.out W h').1).more (HW.out W h').1.size) hl ((hG.below (HW.out W h').1).more (HW.out W h').1.size) he hpn hrow hi hm)
  rw [← hnp, ← hnl, ← hnm] at HPw HLk
  have hl6 : nl ≤ 1000000 := by omega
  have HT := Lib.hid hT
  have HNl := Lib.hid hnl
  have HNm := Lib.hid hnm
  have HNp := Lib.hid hnp
  have HN := Lib.hid hN
  have HW1 := Lib.hid hW1
  have hNl := bN.lt
  have r1 := (HW.out _ (Below.refl _ _)).2
  rw [HW1.out] at r1
  rw [HN.out] at r1
  unfold Row at r1
  clear hP hp hL hl hG hg hT hN hW1 hb1 bN hnl hnm hnp
  go_enter Tryz.func55, Tryz.ntmps55
  by_cases g1 : nodes < 2
  · have d1 : decide (nodes < 2) = true := decide_eq_true g1
    have hf : Hid (T = 2) := Lib.hid (by rw [HT.out, if_pos (.inl g1)])
    clear g1
    go_wp2_with fail
    go_ret
    exact ⟨ret_int (by rw [hf.out]), by rw [← HW1.out]; exact (HW.out _ (Below.refl _ _)).1⟩
  have d1 : decide (nodes < 2) = false := decide_eq_false g1
  by_cases g2 : 32 < nodes
  · have d2 : decide (32 < nodes) = true := decide_eq_true g2
    have hf : Hid (T = 2) := Lib.hid (by rw [HT.out, if_pos (.inr g2)])
    clear g1 g2
    go_wp2_with fail
    go_ret
    exact ⟨ret_int (by rw [hf.out]), by rw [← HW1.out]; exact (HW.out _ (Below.refl _ _)).1⟩
  have d2 : decide (32 < nodes) = false := decide_eq_false g2
  have HT1 : Hid (T = if powE nodes (pw.map PRow.l) ≠ 0 then powE nodes (pw.map PRow.l) else if Nd.inB noise 0 68719476736 = false ∨ Nd.inB thr 1000 100000 = false then 2 else if 128 < nl then 8 else if nm ≠ nl then 11 else lkGo nodes (pw.map PRow.l) none lk mg) := Lib.hid (by rw [HT.out, if_neg (by omega)])
  clear HT g1 g2
  go_wp2_with fail
  rw [← HW1.out, ← HN.out]
  refine HPw.out.mono ?_
  rintro e w2 ⟨rfl, hb2⟩
  clear HPw d1 d2 r1
  have r1 := (HW.out _ hb2).2
  unfold Row at r1
  obtain ⟨E, hE⟩ : ∃ E, E = powE nodes (pw.map PRow.l) := ⟨_, rfl⟩
  have HE := Lib.hid hE
  rw [← hE] at HT1 ⊢
  clear hE
  by_cases g3 : E = 0
  case neg =>
    have d3 : (E != 0) = true := by simpa using g3
    have hf : Hid (T = E) := Lib.hid (by rw [HT1.out, if_pos g3])
    clear g3
    go_wp2_with fail
    go_ret
    exact ⟨ret_int (by rw [hf.out]), (HW.out _ hb2).1⟩
  have d3 : (E != 0) = false := by simpa using g3
  have HT2 : Hid (T = if Nd.inB noise 0 68719476736 = false ∨ Nd.inB thr 1000 100000 = false then 2 else if 128 < nl then 8 else if nm ≠ nl then 11 else lkGo nodes (pw.map PRow.l) none lk mg) := Lib.hid (by rw [HT1.out, if_neg (by simpa using g3)])
  have HPz := Lib.hid (powE_zero (by rw [← HE.out]; exact g3 : powE nodes (pw.map PRow.l) = 0))
  clear HT1 g3 HE
  by_cases g4 : noise < 0
  · have dg4 : decide (noise < 0) = true := decide_eq_true g4
    have hf : Hid (T = 2) := Lib.hid (by rw [HT2.out, if_pos (.inl (by unfold Nd.inB; rw [decide_eq_false (p := 0 ≤ noise) (by omega)]; rfl))])
    clear g4
    go_wp2_with fail
    go_ret
    exact ⟨ret_int (by rw [hf.out]), (HW.out _ hb2).1⟩
  have dg4 : decide (noise < 0) = false := decide_eq_false g4
  by_cases g5 : 68719476736 < noise
  · have dg5 : decide (68719476736 < noise) = true := decide_eq_true g5
    have hf : Hid (T = 2) := Lib.hid (by rw [HT2.out, if_pos (.inl (by unfold Nd.inB; rw [decide_eq_false (p := noise ≤ 68719476736) (by omega), Bool.and_false]))])
    clear g4 g5
    go_wp2_with fail
    go_ret
    exact ⟨ret_int (by rw [hf.out]), (HW.out _ hb2).1⟩
  have dg5 : decide (68719476736 < noise) = false := decide_eq_false g5
  by_cases g6 : thr < 1000
  · have dg6 : decide (thr < 1000) = true := decide_eq_true g6
    have hf : Hid (T = 2) := Lib.hid (by rw [HT2.out, if_pos (.inr (by unfold Nd.inB; rw [decide_eq_false (p := 1000 ≤ thr) (by omega)]; rfl))])
    clear g4 g5 g6
    go_wp2_with fail
    go_ret
    exact ⟨ret_int (by rw [hf.out]), (HW.out _ hb2).1⟩
  have dg6 : decide (thr < 1000) = false := decide_eq_false g6
  by_cases g7 : 100000 < thr
  · have dg7 : decide (100000 < thr) = true := decide_eq_true g7
    have hf : Hid (T = 2) := Lib.hid (by rw [HT2.out, if_pos (.inr (by unfold Nd.inB; rw [decide_eq_false (p := thr ≤ 100000) (by omega), Bool.and_false]))])
    clear g4 g5 g6 g7
    go_wp2_with fail
    go_ret
    exact ⟨ret_int (by rw [hf.out]), (HW.out _ hb2).1⟩
  have dg7 : decide (100000 < thr) = false := decide_eq_false g7
  have HT3 : Hid (T = if 128 < nl then 8 else if nm ≠ nl then 11 else lkGo nodes (pw.map PRow.l) none lk mg) := Lib.hid (by rw [HT2.out, if_neg (by unfold Nd.inB; rw [decide_eq_true (p := 0 ≤ noise) (by omega), decide_eq_true (p := noise ≤ 68719476736) (by omega), decide_eq_true (p := 1000 ≤ thr) (by omega), decide_eq_true (p := thr ≤ 100000) (by omega)]; decide)])
  clear HT2 g4 g5 g6 g7
  by_cases g8 : 128 < nl
  · have d8 : decide ((128 : Int) < (nl : Int)) = true := decide_eq_true (by omega)
    have d8' : decide (128 < nl) = true := decide_eq_true g8
    have hf : Hid (T = 8) := Lib.hid (by rw [HT3.out, if_pos g8])
    go_wp2_with fail
    go_ret
    exact ⟨ret_int (by rw [hf.out]), (HW.out _ hb2).1⟩
  have d8 : decide ((128 : Int) < (nl : Int)) = false := decide_eq_false (by omega)
  have d8' : decide (128 < nl) = false := decide_eq_false g8
  by_cases g9 : nm = nl
  case neg =>
    have hf : Hid (T = 11) := Lib.hid (by rw [HT3.out, if_neg g8, if_pos g9])
    have d9 : ((nm : Int) != (nl : Int)) = true := by simp; omega
    have d9' : ¬ (nm : Int) = (nl : Int) := by omega
    go_wp2_with fail
    go_ret
    exact ⟨ret_int (by rw [hf.out]), (HW.out _ hb2).1⟩
  have HT4 : Hid (T = lkGo nodes (pw.map PRow.l) none lk mg) := Lib.hid (by rw [HT3.out, if_neg g8, if_neg (by simpa using g9)])
  have HL2 := Lib.hid (HLk.out (by have := HPz.out.1; rw [List.length_map, ← HNp.out] at this; exact this) (fun p hp => HPz.out.2.1 _ (List.mem_map_of_mem hp)) g9)
  subst g9
  have d9 : ((nm : Int) != (nm : Int)) = false := by simp
  clear HT3 HLk HPz g8
  go_wp2_with fail
  clear r1
  go_loopw [54] (fun i wr => ∃ (k : Nat), k ≤ nm ∧ i = .int .i64 k ∧ Below W1.heap.size W1 wr ∧ Hid (T = lkGo nodes (pw.map PRow.l) (prevL lk k) (lk.drop k) (mg.drop k))) (fun i _ => nm - (intOf i).toNat)
  case atStart => exact ⟨0, by omega, rfl, hb2, Lib.hid (by rw [HT4.out]; rfl)⟩
  case round =>
    clear HT4 hb2
    obtain ⟨k, hk, rfl, hb, HS⟩ := hrel
    by_cases hlt : k < nm
    · obtain ⟨l, hlk⟩ := get_of_lt (l := lk) (k := k) (by rw [← HNl.out]; exact hlt)
      obtain ⟨m, hmk⟩ := get_of_lt (l := mg) (k := k) (by rw [← HNm.out]; exact hlt)
      have Con := Lib.hid (HL2.out k l m hlk hmk wr hb)
      have HS2 : Hid (T = if lkE nodes (pw.map PRow.l) (prevL lk k) l m = 0 then lkGo nodes (pw.map PRow.l) (prevL lk (k + 1)) (lk.drop (k + 1)) (mg.drop (k + 1)) else lkE nodes (pw.map PRow.l) (prevL lk k) l m) := Lib.hid (by
        rw [HS.out, drop_of_get hlk, drop_of_get hmk, prevL_succ hlk]
        rfl)
      obtain ⟨V, hV⟩ : ∃ V, V = lkE nodes (pw.map PRow.l) (prevL lk k) l m := ⟨_, rfl⟩
      rw [← hV] at HS2 Con
      have r1 := (HW.out _ hb).2
      unfold Row at r1
      clear HS hV hlk hmk
      go_wp2_with fail
      refine Con.out.mono ?_
      rintro e w4 ⟨rfl, hb4⟩
      have hB4 : Below W1.heap.size W1 w4 := hb.trans (hb4.mono hb.size)
      clear r1 Con
      by_cases hV0 : V = 0
      · have dv : (V != 0) = false := by simpa using hV0
        have hf := Lib.hid (show T = lkGo nodes (pw.map PRow.l) (prevL lk (k + 1)) (lk.drop (k + 1)) (mg.drop (k + 1)) by rw [HS2.out, if_pos hV0])
        clear HS2 hV0
        go_wp2_with fail
        go_roundw
        case rel => exact ⟨k + 1, by omega, by go_num, hB4, hf⟩
        case measure => simp [intOf]; omega
      · have dv : (V != 0) = true := by simpa using hV0
        have hf := Lib.hid (show T = V by rw [HS2.out, if_neg hV0])
        clear HS2 hV0
        go_wp2_with fail
        go_ret
        exact ⟨ret_int (by rw [hf.out]), (HW.out _ hB4).1⟩
    · have hf : Hid (T = 0) := Lib.hid (by rw [HS.out, List.drop_of_length_le (by rw [← HNl.out]; omega)]; rfl)
      go_wp2_with fail
      go_ret
      exact ⟨ret_int (by rw [hf.out]), (HW.out _ hb).1⟩
end Go.Proofs.YticnppnejafhdaaGreatDoor
/- Networks as abstract data; network.Check lifted. -/
namespace Go.Proofs.YticnppnejafhdaaGreatDoor
open Go.RowKit
open Nd Rc Mo
open Av
set_option maxRecDepth 100000

def Mo.Lk.pv (x : Lk) : List PV := [ip x.fr, ip x.tt, ip x.ls]
def irow_pv (x : Int) : List PV := [ip x]
def prow_pv (l : List Int) : List PV := [.sl 1 (l.map irow_pv)]
def Mo.Net.pv (n : Net) : List PV := [ip n.nodes, .sl 1 (n.pow.map prow_pv), ip n.noise, ip n.thr, .sl 3 (n.lk.map Lk.pv), .sl 1 (n.mg.map irow_pv)]
theorem ints_rep {w : World} {R : Reader} {l : List Int} {u : Value} (hR : ∀ p v, R p = some v → w.cell? p = some v) (h : RepP R (.sl 1 (l.map irow_pv)) u) : ∃ A c, u = .slice A l.length c ∧ LiesI w w.heap.size A l := by
  rw [map_pv (f := irow_pv) (g := irow) (fun _ => rfl)] at h
  obtain ⟨A, c, rfl, hA⟩ := lies_of_rep hR (by decide) h
  rw [List.length_map]
  exact ⟨A, c, rfl, hA⟩
theorem links_rep {w : World} {R : Reader} {l : List Lk} {u : Value} (hR : ∀ p v, R p = some v → w.cell? p = some v) (h : RepP R (.sl 3 (l.map Lk.pv)) u) : ∃ A c, u = .slice A l.length c ∧ Lies w w.heap.size 3 A (l.map Lk.row) := by
  rw [map_pv (f := Lk.pv) (g := Lk.row) (fun _ => rfl)] at h
  obtain ⟨A, c, rfl, hA⟩ := lies_of_rep hR (by decide) h
  rw [List.length_map]
  exact ⟨A, c, rfl, hA⟩
theorem prows {w : World} {B : Nat} : ∀ (pow : List (List Int)) (g : Nat → Value), (∀ k l, pow[k]? = some l → ∃ A c, g k = .slice A l.length c ∧ LiesI w B A l) → (∀ l ∈ pow, l.length ≤ 1000000) → ∃ pw : List PRow, pw.map PRow.l = pow ∧ (∀ k p, pw[k]? = some p → g k = .slice p.A p.l.length p.c) ∧ ∀ p ∈ pw, LiesI w B p.A p.l ∧ p.l.length ≤ 1000000
  | [], g, _, _ => ⟨[], rfl, fun k p h => by simp at h, fun p h => by cases h⟩
  | l :: pow, g, h, hl => by
    obtain ⟨A, c, h1, h2⟩ := h 0 l rfl
    obtain ⟨pw, h3, h4, h5⟩ := prows pow (fun k => g (k + 1)) (fun k l' hk => h (k + 1) l' (by simpa using hk)) (fun l' hl' => hl l' (List.mem_cons_of_mem _ hl'))
    refine ⟨⟨l, A, c⟩ :: pw, by rw [List.map_cons, h3], fun k p hk => ?_, fun p hp => ?_⟩
    · cases k with
      | zero => simp at hk; subst hk; exact h1
      | succ k => exact h4 k p (by simpa using hk)
    · rcases List.mem_cons.1 hp with rfl | hp
      · exact ⟨h2, hl l List.mem_cons_self⟩
      · exact h5 p hp
theorem pow_rep {w : World} {R : Reader} {pow : List (List Int)} {u : Value} (hR : ∀ p v, R p = some v → w.cell? p = some v) (hl : ∀ l ∈ pow, l.length ≤ 1000000) (h : RepP R (.sl 1 (pow.map prow_pv)) u) : ∃ A c pw, u = .slice A pow.length c ∧ pw.map PRow.l = pow ∧ LiesP w w.heap.size A pw := by
  generalize hrows : pow.map prow_pv = rows at h
  cases h with
  | sl _ _ A cap f hsz hA hf hc =>
    have hlen : rows.length = pow.length := by rw [← hrows]; simp
    have hget : ∀ k l, pow[k]? = some l → rows[k]? = some (prow_pv l) := fun k l hk => by rw [← hrows, List.getElem?_map, hk]; rfl
    obtain ⟨pw, h1, h2, h3⟩ := prows (w := w) (B := w.heap.size) pow (fun k => f k 0) (fun k l hk => ints_rep hR (hf k _ 0 _ (hget k l hk) rfl)) hl
    refine ⟨A, cap, pw, by rw [hlen], h1, fun hne => ?_, h3⟩
    rcases hA with h0 | ⟨b, off, rfl, hA⟩
    · exfalso
      apply hne
      rw [h0] at hlen
      have : pow = [] := List.eq_nil_of_length_eq_zero hlen.symm
      rw [this] at h1
      rw [List.map_eq_nil_iff.1 h1]; rfl
    · have hcell : ∀ (k : Nat) (row : List Value), (pw.map PRow.row)[k]? = some row → ∀ (j : Nat) (x : Value), row[j]? = some x → w.cell? ⟨b, off + k * 1 + j, none⟩ = some x := fun k row hk j x hj => by
        rw [List.getElem?_map] at hk
        obtain ⟨p, hp, rfl⟩ := Option.map_eq_some_iff.1 hk
        have hpl : pow[k]? = some p.l := by rw [← h1, List.getElem?_map, hp]; rfl
        cases j with
        | zero =>
          simp [PRow.row] at hj
          subst hj
          have := hA k _ 0 _ (hget k p.l hpl) rfl
          rw [h2 k p hp] at this
          exact hR _ _ this
        | succ j => simp [PRow.row] at hj
      refine ⟨b, off, rfl, ?_, hcell⟩
      cases hpw : pw with
      | nil => rw [hpw] at hne; exact absurd rfl hne
      | cons p pw' => exact Rel.cell_lt (hcell 0 p.row (by rw [hpw]; rfl) 0 _ rfl)
theorem net_rep {w : World} {R : Reader} {bx : Nat → Nat} {n : Net} {u : Value} (hR : ∀ p v, R p = some v → w.cell? p = some v) (hl : ∀ l ∈ n.pow, l.length ≤ 1000000) (h : RepA R bx (.agg n.pv) u) :
    ∃ P L G cp cl cg pw, u = .agg #[.int .i64 n.nodes, .slice P n.pow.length cp, .int .i64 n.noise, .int .i64 n.thr, .slice L n.lk.length cl, .slice G n.mg.length cg] ∧ pw.map PRow.l = n.pow ∧ LiesP w w.heap.size P pw ∧ Lies w w.heap.size 3 L (n.lk.map Lk.row) ∧ LiesI w w.heap.size G n.mg := by
  obtain ⟨us, rfl, h⟩ := h
  cases h with
  | cons h1 h =>
  cases h with
  | cons h2 h =>
  cases h with
  | cons h3 h =>
  cases h with
  | cons h4 h =>
  cases h with
  | cons h5 h =>
  cases h with
  | cons h6 h =>
    cases h
    cases h1
    cases h3
    cases h4
    obtain ⟨P, cp, pw, rfl, e1, e2⟩ := pow_rep hR hl h2
    obtain ⟨L, cl, rfl, e3⟩ := links_rep hR h5
    obtain ⟨G, cg, rfl, e4⟩ := ints_rep hR h6
    exact ⟨P, L, G, cp, cl, cg, pw, rfl, e1, e2, e3, e4⟩
theorem ncheck_ok (n : Net) (hp : n.pow.length ≤ 1000000) (hl : ∀ l ∈ n.pow, l.length ≤ 1000000) (hk : n.lk.length ≤ 1000000) (hg : n.mg.length ≤ 1000000) : FnOK Tryz.prog 55 [.agg n.pv] ⟨iv (chkN n), none⟩ := fn_of ⟨Tryz.f55, _, Tryz.func55, by kernel_rfl, rfl⟩ fun w R hR us hus => by
  cases hus with | cons h0 _ hus =>
  cases hus
  obtain ⟨P, L, G, cp, cl, cg, pw, rfl, e1, e2, e3, e4⟩ := net_rep hR hl h0
  have hlen : n.pow.length = pw.length := by rw [← e1, List.length_map]
  rw [hlen]
  refine (netCheck_any n.nodes n.noise n.thr pw n.lk n.mg P L G cp cl cg w e2 (by omega) e3 hk e4 hg).mono ?_
  rintro e w' ⟨rfl, hb⟩
  rw [e1]
  exact ⟨_, rfl, hb, res_v⟩
end Go.Proofs.YticnppnejafhdaaGreatDoor
/- Abstract states: what else a frame holds: how it changes; operations by hand. Generic. -/
namespace Go.Proofs.YticnppnejafhdaaGreatDoor
open Go.RowKit
namespace Av

/-- From w to w1 only blocks of E0 have changed, and new ones have come; E holds there, of E0's blocks and new ones. -/
structure Turn (E0 : Ext) (w w1 : World) (E : Ext) : Prop where
  os : w1.os = w.os
  tape : w1.tape = w.tape
  output : w1.output = w.output
  size : w.heap.size ≤ w1.heap.size
  block : ∀ k, k < w.heap.size → ¬ E0.foot k → w1.heap[k]? = w.heap[k]?
  holds : E.holds w1
  foot : ∀ b, E.foot b → E0.foot b ∨ (w.heap.size ≤ b ∧ b < w1.heap.size)
  froz : ∀ b, E.froz b → E0.foot b ∨ E0.froz b ∨ (w.heap.size ≤ b ∧ b < w1.heap.size)
  laid : ∀ w0, E0.laid w0 → E.laid w0 := by intros; repeat' (first | assumption | trivial | constructor)
  reads : ∀ R, E0.reads R → E.reads R := by intros; repeat' (first | assumption | trivial | constructor)
theorem Turn.same {E0 E : Ext} {w : World} (h : E.holds w) (hf : ∀ b, E.foot b → E0.foot b) (hz : ∀ b, E.froz b → E0.foot b ∨ E0.froz b) (hl : ∀ w0, E0.laid w0 → E.laid w0 := by intros; repeat' (first | assumption | trivial | constructor)) (hrd : ∀ R, E0.reads R → E.reads R := by intros; repeat' (first | assumption | trivial | constructor)) : Turn E0 w w E := ⟨rfl, rfl, rfl, Nat.le_refl _, fun _ _ _ => rfl, h, fun b hb => .inl (hf b hb), fun b hb => (hz b hb).elim .inl (fun h => .inr (.inl h)), hl, hrd⟩
theorem Turn.below {E0 E : Ext} {w w1 : World} (hb : Below w.heap.size w w1) (h : E.holds w1) (hf : ∀ b, E.foot b → E0.foot b ∨ (w.heap.size ≤ b ∧ b < w1.heap.size)) (hz : ∀ b, E.froz b → E0.foot b ∨ E0.froz b ∨ (w.heap.size ≤ b ∧ b < w1.heap.size)) (hl : ∀ w0, E0.laid w0 → E.laid w0 := by intros; repeat' (first | assumption | trivial | constructor)) (hrd : ∀ R, E0.reads R → E.reads R := by intros; repeat' (first | assumption | trivial | constructor)) : Turn E0 w w1 E := ⟨hb.os, hb.tape, hb.output, hb.size, fun k hk _ => hb.block k hk, h, hf, hz, hl, hrd⟩
section
variable {P : Program} {F : Fr} {σ : St} {γ : Gh} {a : Act} {w w1 : World} {E : Ext}
theorem Rel.turn_le (h : Rel F σ γ a w) (ht : Turn σ.ext w w1 E) : ∀ p v, rdr F.R0 F.w0.heap.size σ γ w p = some v → rdr F.R0 F.w0.heap.size { σ with ext := E } γ w1 p = some v := by
  refine rdr_le fun p v hB hm hc => ?_
  have hlt := Rel.cell_lt hc
  have hne : ¬ σ.ext.foot p.block := fun hx => hm (.inr (.inr hx))
  refine ⟨fun hm' => ?_, (World.cell?_of_block (w := w) (ht.block p.block hlt hne)).trans hc⟩
  rcases hm' with hm' | ⟨L, e, sz, rows, h1, h2, h3, h4⟩ | hx
  · exact hm (.inl hm')
  · exact hm (.inr (.inl ⟨L, e, sz, rows, h1, by cases L <;> exact h2, h3, h4⟩))
  · rcases ht.foot _ hx with h1 | h1
    · exact hne h1
    · omega
/-- What else the frame holds has changed. -/
theorem Rel.turn (h : Rel F σ γ a w) (ht : Turn σ.ext w w1 E) : Rel F { σ with ext := E } γ a w1 := by
  have hle := h.turn_le ht
  have hboxb : ∀ k, (look σ.box k).isSome → w1.heap[γ.bx k]? = w.heap[γ.bx k]? := fun k hk => ht.block _ (h.box_lt hk).1 (fun hx => (h.extf _ (.inl hx)).2.2.1 k hk rfl)
  have hrowb : ∀ L g, (lookL σ.own L).isSome → γ.rw L = some g → w1.heap[g]? = w.heap[g]? := fun L g hL hg => ht.block _ (h.row_lt hL hg).1 (fun hx => (h.extf _ (.inl hx)).2.2.2 L hL hg)
  refine ⟨h.defers, h.size, h.below.trans ⟨ht.os, ht.tape, ht.output, ht.size, fun i hi => ht.block i (Nat.lt_of_lt_of_le hi h.base) (fun hx => by have := (h.extf _ (.inl hx)).1; omega)⟩, h.r0, fun t x hx => ?_, fun k cs hk => ?_, h.boxinj, fun L e sz hL => ?_, h.rowinj, h.rowbox, ht.holds, fun b hb => ?_, h.small, h.dyn, ht.laid _ h.laid, ht.reads _ (σ.ext.rmono hle h.extr)⟩
  · obtain ⟨h1, h2⟩ := h.slots t x hx
    exact ⟨h1.mono hle (fun _ _ => rfl), h2⟩
  · obtain ⟨us, ty, h1, h2, h3⟩ := h.boxes k cs hk
    exact ⟨us, ty, (hboxb k (by rw [show look σ.box k = _ from hk]; rfl)).trans h1, h2, h3.mono hle⟩
  · obtain ⟨rows, v, h1, h2, h3⟩ := h.owns L e sz hL
    have hs : (lookL σ.own L).isSome := by rw [show lookL σ.own L = _ from hL]; rfl
    refine ⟨rows, v, by cases L <;> exact h1, ?_, h3.keep fun g hg => hrowb L g hs hg⟩
    cases L with
    | s t => exact h2
    | b k off =>
      have hk : (look σ.box k).isSome := by
        cases hq : look σ.box k with
        | none => simp [St.avAt, hq] at h1
        | some _ => rfl
      exact (World.cell?_of_block (w := w) (a := ⟨γ.bx k, off, none⟩) (hboxb k hk)).trans h2
  · have hb' : (σ.ext.foot b ∨ σ.ext.froz b) ∨ (w.heap.size ≤ b ∧ b < w1.heap.size) := by
      rcases hb with hb | hb
      · exact (ht.foot b hb).elim (fun h => .inl (.inl h)) .inr
      · exact (ht.froz b hb).elim (fun h => .inl (.inl h)) (fun h => h.elim (fun h => .inl (.inr h)) .inr)
    rcases hb' with h1 | ⟨h1, h2⟩
    · obtain ⟨h3, h4, h5, h6⟩ := h.extf b h1
      exact ⟨h3, Nat.lt_of_lt_of_le h4 ht.size, h5, h6⟩
    · have := h.base
      refine ⟨by omega, h2, fun k hk e => ?_, fun L hL e => ?_⟩
      · have := (h.box_lt hk).1; omega
      · have := (h.row_lt hL e).1; omega
/-- An operation by hand that yields a value. -/
theorem hand_value {n : Nat} {o : Oper} {d : Nat} {K : St → Prop} (hd : o.dst = some d) (hdn : d < n)
    (h : ∀ (F : Fr) (γ : Gh) (a : Act) (w : World), F.n = n → Rel F σ γ a w → ∃ x v w1 E, (execOp a.eval o).run P w = .ok (.value v) w1 ∧ Turn σ.ext w w1 E ∧ RepA (rdr F.R0 F.w0.heap.size { σ with ext := E } γ w1) γ.bx x v ∧ (∀ k ∈ x.refs, (look σ.box k).isSome) ∧ K (({ σ with ext := E } : St).put d x)) : Hand P n σ o K := by
  intro F γ a w hF hr Q
  obtain ⟨x, v, w1, E, hrun, ht, hx, href, hK⟩ := h F γ a w hF hr
  unfold Oper.wp
  rw [hrun]
  show ∃ σ' γ', K σ' ∧ Rel F σ' γ' (a.put o.dst v) w1
  rw [hd]
  exact ⟨_, γ, hK, (hr.turn ht).put (by rw [hF]; exact hdn) hx href⟩
/-- An operation by hand that yields none. -/
theorem hand_skip {n : Nat} {o : Oper} {K : St → Prop} (hd : o.dst = none)
    (h : ∀ (F : Fr) (γ : Gh) (a : Act) (w : World), F.n = n → Rel F σ γ a w → ∃ w1 E, (execOp a.eval o).run P w = .ok .skip w1 ∧ Turn σ.ext w w1 E ∧ K { σ with ext := E }) : Hand P n σ o K := by
  intro F γ a w hF hr Q
  obtain ⟨w1, E, hrun, ht, hK⟩ := h F γ a w hF hr
  unfold Oper.wp
  rw [hrun]
  show ∃ σ' γ', K σ' ∧ Rel F σ' γ' (a.put o.dst undef) w1
  rw [hd]
  exact ⟨_, γ, hK, hr.turn ht⟩
/-- What else the frame holds, said otherwise: some blocks may be set free, and can be read from then on. -/
theorem awp_turn {c : Code} {Q : AX → St → Prop} (h : ∀ w, σ.ext.holds w → E.holds w) (hf : ∀ b, E.foot b → σ.ext.foot b) (hz : ∀ b, E.froz b → σ.ext.foot b ∨ σ.ext.froz b) (hw : AWp P F c Q { σ with ext := E }) (hl : ∀ w0, σ.ext.laid w0 → E.laid w0 := by intros; repeat' (first | assumption | trivial | constructor)) (hrd : ∀ R, σ.ext.reads R → E.reads R := by intros; repeat' (first | assumption | trivial | constructor)) : AWp P F c Q σ := fun γ a w hr =>
  hw γ a w (hr.turn (Turn.same (h w hr.exth) hf hz hl hrd))
/-- A slot's value. -/
theorem Rel.val (h : Rel F σ γ a w) {t : Nat} {v : Value} (ht : look σ.slot t = some (.v v)) : a.tmps.getD t undef = v := (h.slots t _ ht).1
theorem Rel.agg (h : Rel F σ γ a w) {t : Nat} {xs : List PV} (ht : look σ.slot t = some (.agg xs)) : ∃ us, a.tmps.getD t undef = .agg us.toArray ∧ RepL (rdr F.R0 F.w0.heap.size σ γ w) xs us := (h.slots t _ ht).1
theorem rep_ints {R : Reader} : ∀ {xs : List Value} {us : List Value}, RepL R (xs.map PV.v) us → us = xs
  | [], _, h => by cases h; rfl
  | x :: xs, _, h => by
    cases h with
    | cons h1 h2 =>
      cases h1
      rw [rep_ints h2]
end
end Av
end Go.Proofs.YticnppnejafhdaaGreatDoor
/- Maps that a call makes, by what they hold at each key. Generic. -/
namespace Go.Proofs.YticnppnejafhdaaGreatDoor
open Go.RowKit Go.Maps
open Go.Maps (Keyed)
namespace Av

abbrev MReader := Value → Option (DataW Unit × List MemPlace)
/-- Block b is a map of at most n entries; at a key it holds what reads as G says. -/
def MapIs (w : World) (P : Program) (k : TypeId) (R : MReader) (b n : Nat) (G : Value → Option (DataW Unit)) : Prop :=
  ∃ D, w.ownsMap P k R b n D ∧ IsMap D ∧ ∀ key kl, keyOf P k key = some kl → match G key with | some d => ∀ z, D.atKey kl z = d | none => ∀ z, D.atKey kl z = z
section
variable {P : Program} {k : TypeId} {R : MReader} {b n : Nat} {G : Value → Option (DataW Unit)} {w w' : World}
theorem MapIs.made (w : World) : MapIs (w.alloc (.map #[] 0)) P k R w.heap.size 0 (fun _ => none) :=
  ⟨.map [], World.ownsMap_made w _ _ _, isMap_empty, fun _ _ _ _ => by simp [DataW.atKey]⟩
theorem MapIs.stable (h : MapIs w P k R b n G) (hb : w'.heap[b]? = w.heap[b]?) : MapIs w' P k R b n G := by
  obtain ⟨D, ⟨es, clock, h1, h2⟩, h3⟩ := h
  exact ⟨D, ⟨es, clock, hb.trans h1, h2⟩, h3⟩
theorem MapIs.lt (h : MapIs w P k R b n G) : b < w.heap.size := by
  obtain ⟨D, h1, _⟩ := h
  exact h1.lt
theorem MapIs.mono (h : MapIs w P k R b n G) {n' : Nat} (hn : n ≤ n') : MapIs w P k R b n' G := by
  obtain ⟨D, h1, h2⟩ := h
  exact ⟨D, h1.mono hn, h2⟩
theorem MapIs.look (h : MapIs w P k R b n G) (c : Bool) (K : Keyed P k) {t e : TypeId} (ht : P.underlying t = some (.map k e)) {z : Value} (hz : (zeroValue e).run P w = .ok z w) {key : Value} {kl : Lit} (hkey : keyOf P k key = some kl) :
    (G key = none ∧ (Instr.lookup t (.map (some b)) key c).run P w = .ok (if c then .tuple #[z, .bool false] else z) w) ∨
    ∃ v d ps, G key = some d ∧ R v = some (d, ps) ∧ (Instr.lookup t (.map (some b)) key c).run P w = .ok (if c then .tuple #[v, .bool true] else v) w := by
  obtain ⟨D, ⟨es, clock, hb, F, _, rfl⟩, _, h3⟩ := h
  have h4 := h3 key kl hkey
  rcases fit_look c K ht hz hb F hkey with ⟨hrun, _, hat⟩ | ⟨e0, y, _, _, hrun, hRv, hat, _⟩
  · refine .inl ⟨?_, hrun⟩
    cases hG : G key with
    | none => rfl
    | some d =>
      rw [hG] at h4
      have h5 := (hat (.lit (.bool true))).symm.trans (h4 _)
      have h6 := (hat (.lit (.bool false))).symm.trans (h4 _)
      rw [← h6] at h5
      cases h5
  · refine .inr ?_
    cases hG : G key with
    | none =>
      rw [hG] at h4
      have h5 := (hat (.lit (.bool true))).symm.trans (h4 _)
      have h6 := (hat (.lit (.bool false))).symm.trans (h4 _)
      rw [h5] at h6
      cases h6
    | some d =>
      rw [hG] at h4
      have h5 : y.1 = d := (hat .nil).symm.trans (h4 _)
      exact ⟨e0.val, d, y.2, rfl, by rw [hRv, ← h5], hrun⟩
open Classical in
theorem MapIs.put (h : MapIs w P k R b n G) (K : Keyed P k) {t e : TypeId} (ht : P.underlying t = some (.map k e)) (hn : n < maxLen) {key val : Value} {kl : Lit} {d : DataW Unit} {ps : List MemPlace} (hkey : keyOf P k key = some kl) (hv : R val = some (d, ps)) :
    ∃ w', (Instr.mapUpdate t (.map (some b)) key val).run P w = .ok () w' ∧ MapIs w' P k R b (n + 1) (fun x => if x = key then some d else G x) ∧ w.grownBy w' (some b) := by
  obtain ⟨D, h1, h2, h3⟩ := h
  obtain ⟨w', hrun, r1, r2⟩ := h1.update K ht hn hkey hv
  refine ⟨w', hrun, ⟨_, r1, h2.put _ _, fun x xl hx => ?_⟩, r2⟩
  show match (if x = key then some d else G x) with | some d => ∀ z, _ = d | none => ∀ z, _ = z
  by_cases e : x = key
  · subst e
    have : xl = kl := by rw [hx] at hkey; exact Option.some.inj hkey
    subst this
    rw [if_pos rfl]
    exact fun z => atKey_put_same h2 (K.key hkey) _ _
  · rw [if_neg e]
    have hne : xl ≠ kl := fun e' => e (K.inj hx (by rw [e']; exact hkey))
    have h4 := h3 x xl hx
    cases hG : G x with
    | none =>
      rw [hG] at h4
      exact fun z => (atKey_put_other hne _ _).trans (h4 z)
    | some d' =>
      rw [hG] at h4
      exact fun z => (atKey_put_other hne _ _).trans (h4 z)
end
end Av
end Go.Proofs.YticnppnejafhdaaGreatDoor
/- Ranges over maps that a call makes. Generic. -/
namespace Go.Proofs.YticnppnejafhdaaGreatDoor
open Go.RowKit Go.Maps
open Go.Maps (Keyed)
namespace Av

/-- Block r is an iterator over the map b; at the keys of S there are entries to come. -/
def RangeIs (w : World) (P : Program) (k : TypeId) (R : MReader) (b r n : Nat) (G : Value → Option (DataW Unit)) (S : Value → Prop) (cnt : Nat) : Prop :=
  ∃ D left, w.ranges P k R b r n D left cnt ∧ IsMap D ∧ (∀ key kl, keyOf P k key = some kl → match G key with | some d => ∀ z, D.atKey kl z = d | none => ∀ z, D.atKey kl z = z) ∧ ∀ key kl, keyOf P k key = some kl → (left kl = true ↔ S key)
section
variable {P : Program} {k : TypeId} {R : MReader} {b r n cnt : Nat} {G : Value → Option (DataW Unit)} {S : Value → Prop} {w w' : World}
theorem RangeIs.stable (h : RangeIs w P k R b r n G S cnt) (hb : w'.heap[b]? = w.heap[b]?) (hr : w'.heap[r]? = w.heap[r]?) : RangeIs w' P k R b r n G S cnt := by
  obtain ⟨D, left, ⟨es, clock, since, seen, c0, h1, h2, h3, h4, h5, h6⟩, h7⟩ := h
  exact ⟨D, left, ⟨es, clock, since, seen, c0, hb.trans h1, h2, h3, h4, hr.trans h5, h6⟩, h7⟩
theorem RangeIs.lt (h : RangeIs w P k R b r n G S cnt) : b < w.heap.size ∧ r < w.heap.size ∧ r ≠ b := by
  obtain ⟨D, left, h1, _⟩ := h
  exact ⟨h1.owns.lt, h1.lt, h1.ne⟩
theorem has_of_atKey {D : DataW Unit} {kl : Lit} {o : Option (DataW Unit)} (h : match o with | some d => ∀ z, D.atKey kl z = d | none => ∀ z, D.atKey kl z = z) : has D kl = true ↔ o.isSome = true := by
  cases o with
  | none => rw [has_false_of_atKey h]; simp
  | some d => rw [has_true_of_atKey h]; simp
theorem MapIs.range (h : MapIs w P k R b n G) (K : Keyed P k) {t e : TypeId} (ht : P.underlying t = some (.map k e)) :
    ∃ w' cnt, (Instr.range t (.map (some b))).run P w = .ok (.pointer (some ⟨w.heap.size, 0, none⟩)) w' ∧ RangeIs w' P k R b w.heap.size n G (fun key => (G key).isSome = true) cnt ∧ w.grownBy w' none ∧ w'.heap.size = w.heap.size + 1 := by
  obtain ⟨D, h1, h2, h3⟩ := h
  obtain ⟨w', hrun, r1, r2, r3⟩ := h1.range K ht
  exact ⟨w', _, hrun, ⟨D, _, r1, h2, h3, fun key kl hkey => has_of_atKey (h3 key kl hkey)⟩, r2, r3⟩
theorem RangeIs.next (h : RangeIs w P k R b r n G S cnt) (K : Keyed P k) (ty : TypeId) :
    ((∀ key kl, keyOf P k key = some kl → ¬ S key) ∧ (Instr.next (.pointer (some ⟨r, 0, none⟩)) false ty).run P w = .ok (.tuple #[.bool false]) w) ∨
    ∃ key v kl d ps w' cnt', keyOf P k key = some kl ∧ S key ∧ R v = some (d, ps) ∧ G key = some d ∧ (Instr.next (.pointer (some ⟨r, 0, none⟩)) false ty).run P w = .ok (.tuple #[.bool true, key, v]) w' ∧
      RangeIs w' P k R b r n G (fun x => S x ∧ x ≠ key) cnt' ∧ cnt' < cnt ∧ w.grownBy w' (some r) ∧ w'.heap.size = w.heap.size ∧ (Instr.entry (.pointer (some ⟨r, 0, none⟩))).run P w' = .ok (.tuple #[key, v]) w' := by
  obtain ⟨D, left, h1, h2, h3, h4⟩ := h
  rcases h1.next K ty with ⟨_, hl, hrun⟩ | ⟨key, v, kl, y, w', cnt', hkey, hlk, hv, hat, hrun, hrg, hlt, hgr, hsz, hen⟩
  · refine .inl ⟨fun key kl hkey hS => ?_, hrun⟩
    have h5 := (h4 key kl hkey).2 hS
    rw [hl] at h5
    cases h5
  · refine .inr ⟨key, v, kl, y.1, y.2, w', cnt', hkey, (h4 key kl hkey).1 hlk, hv, ?_, hrun, ⟨D, _, hrg, h2, h3, fun x xl hx => ?_⟩, hlt, hgr, hsz, hen⟩
    · have h5 := h3 key kl hkey
      cases hG : G key with
      | none =>
        rw [hG] at h5
        have h6 := (hat (.lit (.bool true))).symm.trans (h5 _)
        have h7 := (hat (.lit (.bool false))).symm.trans (h5 _)
        rw [h6] at h7; cases h7
      | some d =>
        rw [hG] at h5
        rw [← hat .nil, h5]
    · rw [Bool.and_eq_true, h4 x xl hx]
      refine and_congr_right fun _ => ?_
      constructor
      · intro h5 e
        subst e
        have : xl = kl := by rw [hx] at hkey; exact Option.some.inj hkey
        subst this
        rw [WideAt.sameKey_self (K.key hx)] at h5
        cases h5
      · intro h5
        cases hs : xl.sameKey kl with
        | false => rfl
        | true =>
          have := WideAt.sameKey_eq hs
          subst this
          exact absurd (K.inj hx hkey) h5
theorem RangeIs.entry (h : RangeIs w P k R b r n G S cnt) {v : Value} (he : (Instr.entry (.pointer (some ⟨r, 0, none⟩))).run P w = .ok v w) (hb : w'.heap[b]? = w.heap[b]?) (hr : w'.heap[r]? = w.heap[r]?) : (Instr.entry (.pointer (some ⟨r, 0, none⟩))).run P w' = .ok v w' := by
  obtain ⟨D, left, ⟨es, clock, since, seen, c0, h1, h2, h3, h4, h5, h6⟩, h7⟩ := h
  have hb1 := hb.trans h1
  have hr1 := hr.trans h5
  simp only [Instr.entry, getObj, Sem.run_bind, Sem.run, h5, Result.andThen] at he
  simp only [Instr.entry, getObj, Sem.run_bind, Sem.run, hr1, Result.andThen]
  cases hs : seen.back? with
  | none => simp only [hs] at he; cases he
  | some stamp =>
    simp only [hs, Sem.run_bind, Sem.run, h1, Result.andThen] at he
    simp only [hs, Sem.run_bind, Sem.run, hb1, Result.andThen]
    split at he
    · cases he
    · rename_i hc
      rw [if_neg hc]
      cases hf : es.find? (fun x => x.born == stamp) with
      | none => rw [hf] at he; cases he
      | some e =>
        rw [hf] at he
        simp only [Sem.run_pure, Result.ok.injEq, and_true] at he ⊢
        exact he
end
end Av
end Go.Proofs.YticnppnejafhdaaGreatDoor
/- Abstract states: maps that the frame holds besides. Generic. -/
namespace Go.Proofs.YticnppnejafhdaaGreatDoor
open Go.RowKit Go.Maps
open Go.Maps (Keyed)
namespace Av

/-- All blocks of it. -/
def Ext.all (A : Ext) (b : Nat) : Prop := A.foot b ∨ A.froz b
def Ext.and (A B : Ext) : Ext where
  foot b := A.foot b ∨ B.foot b
  froz b := A.froz b ∨ B.froz b
  holds w := A.holds w ∧ B.holds w ∧ ∀ b, A.all b → ¬ B.all b
  stable h hw := ⟨A.stable (fun b hb => h b (hb.elim (fun h => .inl (.inl h)) (fun h => .inr (.inl h)))) hw.1, B.stable (fun b hb => h b (hb.elim (fun h => .inl (.inr h)) (fun h => .inr (.inr h)))) hw.2.1, hw.2.2⟩
  laid w := A.laid w ∧ B.laid w
  reads R := A.reads R ∧ B.reads R
  rmono h hr := ⟨A.rmono h hr.1, B.rmono h hr.2⟩
theorem Turn.all {A A' : Ext} {w w1 : World} (ht : Turn A w w1 A') {b : Nat} (hb : A'.all b) : A.all b ∨ (w.heap.size ≤ b ∧ b < w1.heap.size) := by
  rcases hb with hb | hb
  · exact (ht.foot b hb).elim (fun h => .inl (.inl h)) .inr
  · exact (ht.froz b hb).elim (fun h => .inl (.inl h)) (fun h => h.elim (fun h => .inl (.inr h)) .inr)
theorem Turn.left {A A' B : Ext} {w w1 : World} (hl : ∀ b, B.all b → b < w.heap.size) (hh : (A.and B).holds w) (ht : Turn A w w1 A') : Turn (A.and B) w w1 (A'.and B) := by
  obtain ⟨_, h2, h3⟩ := hh
  have hk : ∀ b, B.all b → ¬ A.foot b := fun b hb ha => h3 b (.inl ha) hb
  refine ⟨ht.os, ht.tape, ht.output, ht.size, fun k hk' hn => ht.block k hk' (fun ha => hn (.inl ha)), ⟨ht.holds, B.stable (fun b hb => ht.block b (hl b hb) (hk b hb)) h2, fun b ha hb => ?_⟩, fun b hb => ?_, fun b hb => ?_, fun w0 h => ⟨ht.laid w0 h.1, h.2⟩, fun R h => ⟨ht.reads R h.1, h.2⟩⟩
  · rcases ht.all ha with h | h
    · exact h3 b h hb
    · have := hl b hb; omega
  · rcases hb with hb | hb
    · rcases ht.foot b hb with h | h
      · exact .inl (.inl h)
      · exact .inr h
    · exact .inl (.inr hb)
  · rcases hb with hb | hb
    · rcases ht.froz b hb with h | h | h
      · exact .inl (.inl h)
      · exact .inr (.inl (.inl h))
      · exact .inr (.inr h)
    · exact .inr (.inl (.inr hb))
theorem Turn.right {A B B' : Ext} {w w1 : World} (hl : ∀ b, A.all b → b < w.heap.size) (hh : (A.and B).holds w) (ht : Turn B w w1 B') : Turn (A.and B) w w1 (A.and B') := by
  obtain ⟨h1, _, h3⟩ := hh
  have hk : ∀ b, A.all b → ¬ B.foot b := fun b ha hb => h3 b ha (.inl hb)
  refine ⟨ht.os, ht.tape, ht.output, ht.size, fun k hk' hn => ht.block k hk' (fun ha => hn (.inr ha)), ⟨A.stable (fun b hb => ht.block b (hl b hb) (hk b hb)) h1, ht.holds, fun b ha hb => ?_⟩, fun b hb => ?_, fun b hb => ?_, fun w0 h => ⟨h.1, ht.laid w0 h.2⟩, fun R h => ⟨h.1, ht.reads R h.2⟩⟩
  · rcases ht.all hb with h | h
    · exact h3 b ha h
    · have := hl b ha; omega
  · rcases hb with hb | hb
    · exact .inl (.inl hb)
    · rcases ht.foot b hb with h | h
      · exact .inl (.inr h)
      · exact .inr h
  · rcases hb with hb | hb
    · exact .inr (.inl (.inl hb))
    · rcases ht.froz b hb with h | h | h
      · exact .inl (.inr h)
      · exact .inr (.inl (.inr h))
      · exact .inr (.inr h)
/-- Something new besides. -/
theorem Turn.more {A B : Ext} {w w1 : World} (hl : ∀ b, A.all b → b < w.heap.size) (hh : A.holds w) (ht : Turn Ext.nil w w1 B) : Turn A w w1 (A.and B) := by
  have hB : ∀ b, B.all b → w.heap.size ≤ b ∧ b < w1.heap.size := fun b hb => (ht.all hb).resolve_left (fun h => h.elim (fun h => h.elim) (fun h => h.elim))
  refine ⟨ht.os, ht.tape, ht.output, ht.size, fun k hk' _ => ht.block k hk' (fun h => h.elim), ⟨A.stable (fun b hb => ht.block b (hl b hb) (fun h => h.elim)) hh, ht.holds, fun b ha hb => ?_⟩, fun b hb => ?_, fun b hb => ?_, fun w0 h => ⟨h, ht.laid w0 trivial⟩, fun R h => ⟨h, ht.reads R trivial⟩⟩
  · have := hl b ha; have := hB b hb; omega
  · rcases hb with hb | hb
    · exact .inl hb
    · exact .inr (hB b (.inl hb))
  · rcases hb with hb | hb
    · exact .inr (.inl hb)
    · exact .inr (.inr (hB b (.inr hb)))
section
variable {P : Program} {k : TypeId} {R : MReader}
theorem rep_of_ints {R : Reader} : ∀ {xs : List Value}, (∀ x ∈ xs, x.oneCell' = true) → RepL R (xs.map PV.v) xs
  | [], _ => .nil
  | _ :: _, h => .cons (.v _ (h _ List.mem_cons_self)) (rep_of_ints fun x hx => h x (List.mem_cons_of_mem _ hx))
/-- A map. -/
def mapE (P : Program) (k : TypeId) (R : MReader) (b n : Nat) (G : Value → Option (DataW Unit)) : Ext where
  foot x := x = b
  froz _ := False
  holds w := MapIs w P k R b n G
  stable h hw := hw.stable (h b (.inl rfl))
theorem Turn.mapMade (w : World) : Turn Ext.nil w (w.alloc (.map #[] 0)) (mapE P k R w.heap.size 0 fun _ => none) := by
  have hb : Below w.heap.size w (w.alloc (.map #[] 0)) := (Below.refl _ _).alloc (Nat.le_refl _) _
  exact Turn.below hb (MapIs.made w) (fun b hb => .inr (by subst hb; simp)) (fun b hb => hb.elim)
theorem Turn.grown {A B : Ext} {w w1 : World} {b : Nat} (hg : w.grownBy w1 (some b)) (hA : A.foot b) (hB : B.holds w1) (hf : ∀ x, B.foot x → A.foot x) (hz : ∀ x, B.froz x → A.foot x ∨ A.froz x) (hl : ∀ w0, A.laid w0 → B.laid w0 := by intros; repeat' (first | assumption | trivial | constructor)) (hrd : ∀ R, A.reads R → B.reads R := by intros; repeat' (first | assumption | trivial | constructor)) : Turn A w w1 B :=
  ⟨hg.os, hg.tape, hg.output, hg.size, fun j hj hn => hg.block j hj (fun e => hn (by cases e; exact hA)), hB, fun x hx => .inl (hf x hx), fun x hx => (hz x hx).elim .inl (fun h => .inr (.inl h)), hl, hrd⟩
variable {n d : Nat} {σ : St} {o : Oper} {K : St → Prop}
/-- 'make' of a map. -/
theorem hand_makeMap {T : TypeId} (k : TypeId) (R : MReader) (ho : o.op = .makeMap T none) (hd : o.dst = some d) (hdn : d < n) (h : ∀ b, K (({ σ with ext := σ.ext.and (mapE P k R b 0 fun _ => none) } : St).put d (.v (.map (some b))))) : Hand P n σ o K := by
  refine hand_value hd hdn fun F γ a w _ hr => ⟨.v (.map (some w.heap.size)), .map (some w.heap.size), w.alloc (.map #[] 0), _, ?_, Turn.more (fun b hb => (hr.extf b hb).2.1) hr.exth (Turn.mapMade w), rfl, (fun k hk => by cases hk), h _⟩
  simp [execOp, ho, Instr.makeMap]
/-- The operands of a map's operation. -/
theorem eval_raw {F : Fr} {γ : Gh} {a : Act} {w : World} (hr : Rel F σ γ a w) {x : Operand} {v : Value} (h : evo (look σ.slot) x = some (.v v)) : a.eval x = v := (evo_ok hr (fun _ _ _ hy => hy) h).1
theorem eval_aggv {F : Fr} {γ : Gh} {a : Act} {w : World} (hr : Rel F σ γ a w) {x : Operand} {xs : List Value} (h : evo (look σ.slot) x = some (.agg (xs.map PV.v))) : a.eval x = .agg xs.toArray := by
  obtain ⟨us, h1, h2⟩ := (evo_ok hr (fun _ _ _ hy => hy) h).1
  rw [h1, rep_ints h2]
/-- A look-up: 'look' says how one is made in every world in which the map stands. -/
theorem hand_lookup {T e : TypeId} {m x : Operand} {c : Bool} {b nn : Nat} {G : Value → Option (DataW Unit)} {xs : List Value} {kl : Lit} {z : Value} (ho : o.op = .lookup T m x c) (hd : o.dst = some d) (hdn : d < n)
    (hm : evo (look σ.slot) m = some (.v (.map (some b)))) (hx : evo (look σ.slot) x = some (.agg (xs.map PV.v))) (hE : ∀ w, σ.ext.holds w → MapIs w P k R b nn G) (Kk : Keyed P k) (ht : P.underlying T = some (.map k e)) (hz : ∀ w, (zeroValue e).run P w = .ok z w) (hz1 : z.oneCell' = true)
    (hone : ∀ v d ps, R v = some (d, ps) → v.oneCell' = true) (hkey : keyOf P k (.agg xs.toArray) = some kl)
    (hno : G (.agg xs.toArray) = none → K (σ.put d (if c = true then .tup [.c (.v z), .c (.v (.bool false))] else .v z)))
    (hyes : ∀ v dd ps, G (.agg xs.toArray) = some dd → R v = some (dd, ps) → K (σ.put d (if c = true then .tup [.c (.v v), .c (.v (.bool true))] else .v v))) : Hand P n σ o K := by
  refine hand_value hd hdn fun F γ a w _ hr => ?_
  have e1 := eval_raw hr hm
  have e2 := eval_aggv hr hx
  have hsame : Turn σ.ext w w σ.ext := Turn.same hr.exth (fun _ h => h) (fun _ h => .inr h)
  have key : ∀ v y : Value, v.oneCell' = true → y.oneCell' = true → (Instr.lookup T (.map (some b)) (.agg xs.toArray) c).run P w = .ok (if c then .tuple #[v, y] else v) w → K (σ.put d (if c = true then .tup [.c (.v v), .c (.v y)] else .v v)) →
      ∃ X V w1 E, (execOp a.eval o).run P w = .ok (.value V) w1 ∧ Turn σ.ext w w1 E ∧ RepA (rdr F.R0 F.w0.heap.size { σ with ext := E } γ w1) γ.bx X V ∧ (∀ k ∈ X.refs, (look σ.box k).isSome) ∧ K (({ σ with ext := E } : St).put d X) := fun v y hv hy hrun hK => by
    refine ⟨_, if c then .tuple #[v, y] else v, w, σ.ext, ?_, hsame, ?_, ?_, hK⟩
    · simp [execOp, ho, e1, e2, hrun]
    · cases c with
      | false => exact rfl
      | true => exact ⟨[v, y], rfl, .cons (.c (.v _ hv)) (.cons (.c (.v _ hy)) .nil)⟩
    · cases c <;> exact fun k hk => by cases hk
  rcases (hE w hr.exth).look c Kk ht (hz w) hkey with ⟨hG, hrun⟩ | ⟨v, dd, ps, hG, hR, hrun⟩
  · exact key z (.bool false) hz1 rfl hrun (hno hG)
  · exact key v (.bool true) (hone _ _ _ hR) rfl hrun (hyes v dd ps hG hR)
/-- A store: 'hT' says where in what the frame holds the map lies. -/
theorem hand_mapUpdate {T e : TypeId} {m x v : Operand} {b nn : Nat} {G : Value → Option (DataW Unit)} {xs : List Value} {kl : Lit} {val : Value} {dd : DataW Unit} {ps : List MemPlace} {E' : Nat → (Value → Option (DataW Unit)) → Ext} (ho : o.op = .mapUpdate T m x v) (hd : o.dst = none)
    (hm : evo (look σ.slot) m = some (.v (.map (some b)))) (hx : evo (look σ.slot) x = some (.agg (xs.map PV.v))) (hv : evo (look σ.slot) v = some (.v val)) (hE : ∀ w, σ.ext.holds w → MapIs w P k R b nn G) (hn : nn < maxLen) (Kk : Keyed P k) (ht : P.underlying T = some (.map k e)) (hkey : keyOf P k (.agg xs.toArray) = some kl) (hR : R val = some (dd, ps))
    (hT : ∀ w w1 G', (∀ b, σ.ext.all b → b < w.heap.size) → σ.ext.holds w → Turn (mapE P k R b nn G) w w1 (mapE P k R b (nn + 1) G') → Turn σ.ext w w1 (E' (nn + 1) G'))
    (h : ∀ G' : Value → Option (DataW Unit), G' (.agg xs.toArray) = some dd → (∀ y, y ≠ .agg xs.toArray → G' y = G y) → K { σ with ext := E' (nn + 1) G' }) : Hand P n σ o K := by
  classical
  refine hand_skip hd fun F γ a w _ hr => ?_
  have e1 := eval_raw hr hm
  have e2 := eval_aggv hr hx
  have e3 := eval_raw hr hv
  obtain ⟨w1, hrun, h1, hg⟩ := (hE w hr.exth).put Kk ht hn hkey hR
  refine ⟨w1, _, ?_, hT w w1 _ (fun b hb => (hr.extf b hb).2.1) hr.exth (Turn.grown hg rfl h1 (fun _ hx => hx) (fun _ hx => hx.elim)), h _ (if_pos rfl) (fun y hy => if_neg hy)⟩
  simp [execOp, ho, e1, e2, e3, hrun]
/-- An iterator over a map. -/
def rangeE (P : Program) (k : TypeId) (R : MReader) (b r n : Nat) (G : Value → Option (DataW Unit)) (S : Value → Prop) (cnt : Nat) : Ext where
  foot x := x = b ∨ x = r
  froz _ := False
  holds w := RangeIs w P k R b r n G S cnt
  stable h hw := hw.stable (h b (.inl (.inl rfl))) (h r (.inl (.inr rfl)))
/-- An iterator that has just come to an entry. -/
def stepE (P : Program) (k : TypeId) (R : MReader) (b r n : Nat) (G : Value → Option (DataW Unit)) (S : Value → Prop) (cnt : Nat) (key v : Value) : Ext where
  foot x := x = b ∨ x = r
  froz _ := False
  holds w := RangeIs w P k R b r n G S cnt ∧ (Instr.entry (.pointer (some ⟨r, 0, none⟩))).run P w = .ok (.tuple #[key, v]) w
  stable h hw := ⟨hw.1.stable (h b (.inl (.inl rfl))) (h r (.inl (.inr rfl))), hw.1.entry hw.2 (h b (.inl (.inl rfl))) (h r (.inl (.inr rfl)))⟩
theorem hand_range {T e : TypeId} {m : Operand} {b nn : Nat} {G : Value → Option (DataW Unit)} {E' : Nat → Nat → Ext} (ho : o.op = .range T m) (hd : o.dst = some d) (hdn : d < n) (hm : evo (look σ.slot) m = some (.v (.map (some b)))) (hE : ∀ w, σ.ext.holds w → MapIs w P k R b nn G) (Kk : Keyed P k) (ht : P.underlying T = some (.map k e))
    (hT : ∀ w w1 r cnt, (∀ b, σ.ext.all b → b < w.heap.size) → σ.ext.holds w → Turn (mapE P k R b nn G) w w1 (rangeE P k R b r nn G (fun key => (G key).isSome = true) cnt) → Turn σ.ext w w1 (E' r cnt))
    (h : ∀ r cnt, K (({ σ with ext := E' r cnt } : St).put d (.v (.pointer (some ⟨r, 0, none⟩))))) : Hand P n σ o K := by
  refine hand_value hd hdn fun F γ a w _ hr => ?_
  have e1 := eval_raw hr hm
  obtain ⟨w1, cnt, hrun, h1, hg, hs⟩ := (hE w hr.exth).range Kk ht
  refine ⟨.v (.pointer (some ⟨w.heap.size, 0, none⟩)), _, w1, _, ?_, hT w w1 w.heap.size cnt (fun b hb => (hr.extf b hb).2.1) hr.exth ?_, rfl, (fun k hk => by cases hk), h _ _⟩
  · simp [execOp, ho, e1, hrun]
  · exact ⟨hg.os, hg.tape, hg.output, hg.size, fun j hj _ => hg.block j hj (by simp), h1, fun x hx => hx.elim (fun h => .inl h) (fun h => .inr (by omega)), fun x hx => hx.elim, fun _ _ => trivial, fun _ _ => trivial⟩
/-- The step of a range loop. -/
theorem hand_next {it : Operand} {b r nn cnt : Nat} {G : Value → Option (DataW Unit)} {S : Value → Prop} {E' : Nat → Value → Value → Ext} (ho : o.op = .next it false) (hd : o.dst = some d) (hdn : d < n) (hm : evo (look σ.slot) it = some (.v (.pointer (some ⟨r, 0, none⟩)))) (hE : ∀ w, σ.ext.holds w → RangeIs w P k R b r nn G S cnt) (Kk : Keyed P k)
    (hkeys : ∀ key kl, keyOf P k key = some kl → ∃ xs : List Value, key = .agg xs.toArray ∧ ∀ x ∈ xs, x.oneCell' = true) (hone : ∀ v d ps, R v = some (d, ps) → v.oneCell' = true)
    (hT : ∀ w w1 cnt' key v, (∀ b, σ.ext.all b → b < w.heap.size) → σ.ext.holds w → Turn (rangeE P k R b r nn G S cnt) w w1 (stepE P k R b r nn G (fun x => S x ∧ x ≠ key) cnt' key v) → Turn σ.ext w w1 (E' cnt' key v))
    (hno : (∀ key kl, keyOf P k key = some kl → ¬ S key) → K (σ.put d (.tup [.c (.v (.bool false))])))
    (hyes : ∀ (xs : List Value) v kl dd ps cnt', keyOf P k (.agg xs.toArray) = some kl → S (.agg xs.toArray) → R v = some (dd, ps) → G (.agg xs.toArray) = some dd → cnt' < cnt → K (({ σ with ext := E' cnt' (.agg xs.toArray) v } : St).put d (.tup [.c (.v (.bool true)), .g (xs.map PV.v), .c (.v v)]))) : Hand P n σ o K := by
  refine hand_value hd hdn fun F γ a w _ hr => ?_
  have e1 := eval_raw hr hm
  rcases (hE w hr.exth).next Kk o.type with ⟨hS, hrun⟩ | ⟨key, v, kl, dd, ps, w1, cnt', hkey, hS, hR, hG, hrun, h1, hlt, hg, hs, hen⟩
  · refine ⟨.tup [.c (.v (.bool false))], .tuple #[.bool false], w, σ.ext, ?_, Turn.same hr.exth (fun _ h => h) (fun _ h => .inr h), ⟨_, rfl, .cons (.c (.v _ rfl)) .nil⟩, (fun k hk => by cases hk), hno hS⟩
    simp [execOp, ho, e1, hrun]
  · obtain ⟨xs, rfl, hx1⟩ := hkeys key kl hkey
    refine ⟨.tup [.c (.v (.bool true)), .g (xs.map PV.v), .c (.v v)], .tuple #[.bool true, .agg xs.toArray, v], w1, _, ?_, hT w w1 cnt' _ v (fun b hb => (hr.extf b hb).2.1) hr.exth ?_, ⟨[_, _, _], rfl, .cons (.c (.v _ rfl)) (.cons (.g (rep_of_ints hx1)) (.cons (.c (.v _ (hone _ _ _ hR))) .nil))⟩, (fun k hk => by cases hk), hyes xs v kl dd ps cnt' hkey hS hR hG hlt⟩
    · simp [execOp, ho, e1, hrun]
    · exact Turn.grown hg (.inr rfl) ⟨h1, hen⟩ (fun _ hx => hx) (fun _ hx => hx.elim)
/-- A slot's datum, said otherwise. -/
theorem awp_slot {F : Fr} {c : Code} {Q : AX → St → Prop} (t : Nat) (x : AV) (ht : t < F.n) (hx : ∀ γ a w, Rel F σ γ a w → RepA (rdr F.R0 F.w0.heap.size σ γ w) γ.bx x (a.tmps.getD t undef) ∧ ∀ k ∈ x.refs, (look σ.box k).isSome) (h : AWp P F c Q (σ.put t x)) : AWp P F c Q σ := fun γ a w hr => by
  obtain ⟨h1, h2⟩ := hx γ a w hr
  have := hr.put ht h1 h2
  rw [put_same (by rw [hr.size]; exact ht)] at this
  exact h _ a w this
end
end Av
end Go.Proofs.YticnppnejafhdaaGreatDoor
/- Abstract states: boxes whose names are their blocks' numbers (and a million): pointers that lie in maps. Generic. -/
namespace Go.Proofs.YticnppnejafhdaaGreatDoor
open Go.RowKit Go.Maps
open Go.Maps (Keyed)
namespace Av

def ren1 (kb g k : Nat) : Nat := if k = kb then g else k
def AV.ren (kb g : Nat) : AV → AV
  | .ref k off => .ref (ren1 kb g k) off
  | .clo f caps => .clo f (caps.map fun c => (ren1 kb g c.1, c.2))
  | x => x
/-- Box kb is called g. -/
def St.ren (σ : St) (kb g : Nat) : St := { slot := σ.slot.map fun x => (x.1, x.2.ren kb g), box := σ.box.map fun x => (ren1 kb g x.1, x.2), own := σ.own, ext := σ.ext }
def Gh.ren (γ : Gh) (kb g : Nat) : Gh := { γ with bx := fun j => if j = g then γ.bx kb else γ.bx j }
theorem look_map {α : Type} (f : α → α) : ∀ (l : List (Nat × α)) (t : Nat), look (l.map fun x => (x.1, f x.2)) t = (look l t).map f
  | [], _ => rfl
  | x :: l, t => by
    rw [List.map_cons, look_cons, look_map f l t]
    obtain ⟨k, y⟩ := x
    rw [look_cons]
    split <;> rfl
theorem look_ren {α : Type} {kb g : Nat} (hne : kb ≠ g) : ∀ {l : List (Nat × α)}, look l g = none → ∀ j, look (l.map fun x => (ren1 kb g x.1, x.2)) j = if j = g then look l kb else if j = kb then none else look l j
  | [], _, j => by simp [look]
  | (k, x) :: l, hg, j => by
    rw [look_cons] at hg
    by_cases hkg : k = g
    · rw [if_pos hkg] at hg; cases hg
    · rw [if_neg hkg] at hg
      rw [List.map_cons, look_cons, look_ren hne hg j, look_cons, look_cons]
      unfold ren1
      dsimp only
      by_cases hk : k = kb
      · subst hk
        rw [if_pos rfl, if_pos rfl]
        by_cases hj : j = g
        · subst hj; rw [if_pos rfl, if_pos rfl]
        · rw [if_neg (fun e => hj e.symm), if_neg hj, if_neg hj]
          by_cases hjk : j = k
          · rw [if_pos hjk, if_pos hjk]
          · rw [if_neg hjk, if_neg hjk, if_neg (fun e => hjk e.symm)]
      · rw [if_neg hk, if_neg hk]
        by_cases hj : j = g
        · subst hj; rw [if_neg hkg, if_pos rfl, if_pos rfl]
        · rw [if_neg hj, if_neg hj]
          by_cases hjk : j = kb
          · subst hjk; rw [if_neg hk, if_pos rfl, if_pos rfl]
          · rw [if_neg hjk, if_neg hjk]
section
variable {P : Program} {F : Fr} {σ : St} {γ : Gh} {a : Act} {w : World}
theorem ren_sl {kb g sz : Nat} {rows : List (List PV)} {x : AV} (h : x.ren kb g = .sl sz rows) : x = .sl sz rows := by
  cases x <;> first | exact h | cases h
theorem Rel.ren (h : Rel F σ γ a w) {kb g : Nat} (hk : (look σ.box kb).isSome) (hkb : kb < 1000000) (hg : γ.bx kb = g) (hno : ∀ off, lookL σ.own (.b kb off) = none) : look σ.box (g + 1000000) = none ∧ Rel F (σ.ren kb (g + 1000000)) (γ.ren kb (g + 1000000)) a w := by
  have hnone : look σ.box (g + 1000000) = none := by
    cases hq : look σ.box (g + 1000000) with
    | none => rfl
    | some cs =>
      have h1 := h.dyn (g + 1000000) (by rw [hq]; rfl) (by omega)
      have := h.boxinj kb (g + 1000000) hk (by rw [hq]; rfl) (by rw [h1, hg]; omega)
      omega
  have hne : kb ≠ g + 1000000 := by omega
  have hb := fun j => look_ren (l := σ.box) hne hnone j
  have hbx : ∀ j, look (σ.ren kb (g + 1000000)).box j = if j = g + 1000000 then look σ.box kb else if j = kb then none else look σ.box j := hb
  have hsl : ∀ t, look (σ.ren kb (g + 1000000)).slot t = (look σ.slot t).map (·.ren kb (g + 1000000)) := fun t => look_map _ _ t
  have hγ : ∀ j, (γ.ren kb (g + 1000000)).bx j = if j = g + 1000000 then γ.bx kb else γ.bx j := fun j => rfl
  have hown : ∀ L e, lookL σ.own L = some e → ∀ k off, L = .b k off → k ≠ kb ∧ k ≠ g + 1000000 := fun L e hL k off hLk => by
    subst hLk
    refine ⟨fun e' => (by subst e'; rw [hno] at hL; cases hL), fun e' => ?_⟩
    subst e'
    obtain ⟨rows, v, h1, _⟩ := h.owns _ e.1 e.2 hL
    simp [St.avAt, hnone] at h1
  have hav : ∀ L e, lookL σ.own L = some e → ∀ sz rows, (σ.ren kb (g + 1000000)).avAt L = some (.sl sz rows) ↔ σ.avAt L = some (.sl sz rows) := fun L e hL sz rows => by
    cases L with
    | s t =>
      show look (σ.ren kb (g + 1000000)).slot t = _ ↔ look σ.slot t = _
      rw [hsl]
      constructor
      · intro h1
        obtain ⟨x, h2, h3⟩ := Option.map_eq_some_iff.1 h1
        rw [h2, ren_sl h3]
      · intro h1; rw [h1]; rfl
    | b k off =>
      obtain ⟨h1, h2⟩ := hown _ e hL k off rfl
      simp only [St.avAt, hbx, if_neg h1, if_neg h2]
  have hle : ∀ p v, rdr F.R0 F.w0.heap.size σ γ w p = some v → rdr F.R0 F.w0.heap.size (σ.ren kb (g + 1000000)) (γ.ren kb (g + 1000000)) w p = some v := by
    refine rdr_le fun p v _ hm hc => ⟨fun hm' => hm ?_, hc⟩
    rcases hm' with ⟨j, cs, hj, hp⟩ | ⟨L, e, sz, rows, h1, h2, h3, h4⟩ | hx
    · rw [hbx] at hj
      rw [hγ] at hp
      by_cases hjg : j = g + 1000000
      · rw [if_pos hjg] at hj hp; exact .inl ⟨kb, cs, hj, hp⟩
      · rw [if_neg hjg] at hj hp
        by_cases hjk : j = kb
        · rw [if_pos hjk] at hj; cases hj
        · rw [if_neg hjk] at hj; exact .inl ⟨j, cs, hj, hp⟩
    · exact .inr (.inl ⟨L, e, sz, rows, h1, (hav L _ h1 sz rows).1 h2, h3, h4⟩)
    · exact .inr (.inr hx)
  have hbox : ∀ j, (look (σ.ren kb (g + 1000000)).box j).isSome → ∃ j0, (look σ.box j0).isSome ∧ look (σ.ren kb (g + 1000000)).box j = look σ.box j0 ∧ (γ.ren kb (g + 1000000)).bx j = γ.bx j0 ∧ j0 ≠ g + 1000000 ∧ j = ren1 kb (g + 1000000) j0 := fun j hj => by
    rw [hbx] at hj
    by_cases hjg : j = g + 1000000
    · exact ⟨kb, hk, by rw [hbx, if_pos hjg], by rw [hγ, if_pos hjg], hne, by rw [ren1, if_pos rfl]; exact hjg⟩
    · rw [if_neg hjg] at hj
      by_cases hjk : j = kb
      · rw [if_pos hjk] at hj; cases hj
      · rw [if_neg hjk] at hj
        exact ⟨j, hj, by rw [hbx, if_neg hjg, if_neg hjk], by rw [hγ, if_neg hjg], hjg, by rw [ren1, if_neg hjk]⟩
  have href : ∀ j, (look σ.box j).isSome → (look (σ.ren kb (g + 1000000)).box (ren1 kb (g + 1000000) j)).isSome ∧ (γ.ren kb (g + 1000000)).bx (ren1 kb (g + 1000000) j) = γ.bx j := fun j hj => by
    unfold ren1
    by_cases hjk : j = kb
    · subst hjk; rw [if_pos rfl, hbx, hγ, if_pos rfl, if_pos rfl]; exact ⟨hj, rfl⟩
    · have hjg : j ≠ g + 1000000 := fun e => by subst e; rw [hnone] at hj; cases hj
      rw [if_neg hjk, hbx, hγ, if_neg hjg, if_neg hjk, if_neg hjg]
      exact ⟨hj, rfl⟩
  refine ⟨hnone, h.defers, h.size, h.below, h.r0, fun t x hx => ?_, fun j cs hj => ?_, fun j j' hj hj' he => ?_, fun L e sz hL => ?_, h.rowinj, fun L j g' hL hj hg' => ?_, h.exth, fun b hb' => ?_, h.small, fun j hj hd => ?_, h.laid, σ.ext.rmono hle h.extr⟩
  · rw [hsl] at hx
    obtain ⟨y, hy, rfl⟩ := Option.map_eq_some_iff.1 hx
    obtain ⟨h1, h2⟩ := h.slots t y hy
    cases y with
    | ref j off =>
      obtain ⟨h3, h4⟩ := href j (h2 j (by simp [AV.refs]))
      refine ⟨?_, fun k hk' => by simp [AV.ren, AV.refs] at hk'; subst hk'; exact h3⟩
      show _ = Value.pointer _
      rw [h4]; exact h1
    | clo f caps =>
      refine ⟨?_, fun k hk' => ?_⟩
      · show _ = Value.func _ _ _
        rw [show a.tmps.getD t undef = _ from h1, List.map_map]
        congr 2
        refine List.map_congr_left fun c hc => ?_
        have := (href c.1 (h2 c.1 (List.mem_map_of_mem hc))).2
        simp only [Function.comp]
        rw [this]
      · simp only [AV.ren, AV.refs, List.map_map] at hk'
        obtain ⟨c, hc, rfl⟩ := List.mem_map.1 hk'
        exact (href c.1 (h2 c.1 (List.mem_map_of_mem hc))).1
    | v x => exact ⟨h1, fun k hk' => by cases hk'⟩
    | sl sz rows => exact ⟨RepP.mono hle h1, fun k hk' => by cases hk'⟩
    | agg xs => exact ⟨RepA.mono (x := .agg xs) (bx := γ.bx) hle (fun k hk' => by cases hk') h1, fun k hk' => by cases hk'⟩
    | tup vs => exact ⟨RepA.mono (x := .tup vs) (bx := γ.bx) hle (fun k hk' => by cases hk') h1, fun k hk' => by cases hk'⟩
    | ept row => exact ⟨RepA.mono (x := .ept row) (bx := γ.bx) hle (fun k hk' => by cases hk') h1, fun k hk' => by cases hk'⟩
    | fnv f caps => exact ⟨RepA.mono (x := .fnv f caps) (bx := γ.bx) hle (fun k hk' => by cases hk') h1, fun k hk' => by cases hk'⟩
  · obtain ⟨j0, h1, h2, h3, _⟩ := hbox j (by rw [hj]; rfl)
    rw [h2] at hj
    obtain ⟨us, ty, h4, h5, h6⟩ := h.boxes j0 cs hj
    rw [h3]
    exact ⟨us, ty, h4, h5, h6.mono hle⟩
  · obtain ⟨j0, h1, _, h3, _, h5⟩ := hbox j hj
    obtain ⟨j1, h1', _, h3', _, h5'⟩ := hbox j' hj'
    rw [h3, h3'] at he
    rw [h5, h5', h.boxinj j0 j1 h1 h1' he]
  · obtain ⟨rows, v, h1, h2, h3⟩ := h.owns L e sz hL
    refine ⟨rows, v, (hav L _ hL sz rows).2 h1, ?_, h3⟩
    cases L with
    | s t => exact h2
    | b k off =>
      obtain ⟨h4, h5⟩ := hown _ _ hL k off rfl
      show w.cell? ⟨(γ.ren kb (g + 1000000)).bx k, off, none⟩ = some v
      rw [hγ, if_neg h5]; exact h2
  · obtain ⟨j0, h1, _, h3, _⟩ := hbox j hj
    rw [h3]
    exact h.rowbox L j0 g' hL h1 hg'
  · obtain ⟨h1, h2, h3, h4⟩ := h.extf b hb'
    refine ⟨h1, h2, fun j hj => ?_, h4⟩
    obtain ⟨j0, h5, _, h6, _⟩ := hbox j hj
    rw [h6]; exact h3 j0 h5
  · obtain ⟨j0, h1, _, h3, h4, h5⟩ := hbox j hj
    rw [h3]
    unfold ren1 at h5
    by_cases hjk : j0 = kb
    · rw [if_pos hjk] at h5; rw [hjk, hg, h5]; omega
    · rw [if_neg hjk] at h5; rw [h5] at hd ⊢; exact h.dyn j0 h1 hd
/-- A slice that is nil is owned. -/
theorem Rel.ownNil (h : Rel F σ γ a w) {L0 : Loc} {e0 : TypeId} {sz0 : Nat} (hav0 : σ.avAt L0 = some (.sl sz0 [])) (hval : valAt a w γ L0 = some (.slice none 0 0)) : Rel F { σ with own := (L0, (e0, sz0)) :: delL σ.own L0 } (γ.setRow L0 none) a w := by
  have hlk : ∀ L, lookL ((L0, (e0, sz0)) :: delL σ.own L0) L = if L = L0 then some (e0, sz0) else lookL σ.own L := fun L => by
    rw [lookL_cons, lookL_del]
    by_cases h1 : L = L0
    · rw [if_pos h1.symm, if_pos h1]
    · rw [if_neg (fun e => h1 e.symm), if_neg h1, if_neg h1]
  have hrw : ∀ L, (γ.setRow L0 none).rw L = if L = L0 then none else γ.rw L := fun L => rfl
  have hold : ∀ L g, (lookL ((L0, (e0, sz0)) :: delL σ.own L0) L).isSome → (γ.setRow L0 none).rw L = some g → L ≠ L0 ∧ (lookL σ.own L).isSome ∧ γ.rw L = some g := fun L g hL hg => by
    rw [hrw] at hg
    by_cases h1 : L = L0
    · rw [if_pos h1] at hg; cases hg
    · rw [if_neg h1] at hg
      rw [hlk, if_neg h1] at hL
      exact ⟨h1, hL, hg⟩
  have hle : ∀ p v, rdr F.R0 F.w0.heap.size σ γ w p = some v → rdr F.R0 F.w0.heap.size { σ with own := (L0, (e0, sz0)) :: delL σ.own L0 } (γ.setRow L0 none) w p = some v :=
    rdr_le fun p v _ hm hc => ⟨fun hm' => hm (by
      rcases hm' with hm' | ⟨L, e', sz, rows, h1, h2, h3, h4⟩ | hx
      · exact .inl hm'
      · obtain ⟨h5, h6, h7⟩ := hold L _ (by rw [show lookL _ L = _ from h1]; rfl) h3
        have h8 := h1
        dsimp only at h8
        rw [hlk, if_neg h5] at h8
        exact .inr (.inl ⟨L, e', sz, rows, h8, by cases L <;> exact h2, h7, h4⟩)
      · exact .inr (.inr hx)), hc⟩
  refine ⟨h.defers, h.size, h.below, h.r0, fun t x hx => ?_, fun k cs hk => ?_, h.boxinj, fun L e' sz hL => ?_, fun L L' g hL hL' hg hg' => ?_, fun L k g hL hk hg => ?_, h.exth, fun b hb => ?_, h.small, h.dyn, h.laid, σ.ext.rmono hle h.extr⟩
  · obtain ⟨h1, h2⟩ := h.slots t x hx
    exact ⟨h1.mono hle (fun _ _ => rfl), h2⟩
  · obtain ⟨us, ty, h1, h2, h3⟩ := h.boxes k cs hk
    exact ⟨us, ty, h1, h2, h3.mono hle⟩
  · dsimp only at hL
    rw [hlk] at hL
    by_cases h1 : L = L0
    · rw [if_pos h1] at hL
      cases hL
      subst h1
      exact ⟨[], .slice none 0 0, by cases L <;> exact hav0, by cases L <;> exact hval, by rw [hrw, if_pos rfl]; exact ⟨rfl, rfl⟩⟩
    · rw [if_neg h1] at hL
      obtain ⟨rows, v, h3, h4, h5⟩ := h.owns L e' sz hL
      exact ⟨rows, v, by cases L <;> exact h3, by cases L <;> exact h4, by rw [hrw, if_neg h1]; exact h5⟩
  · obtain ⟨_, h1, h2⟩ := hold L g hL hg
    obtain ⟨_, h3, h4⟩ := hold L' g hL' hg'
    exact h.rowinj L L' g h1 h3 h2 h4
  · obtain ⟨_, h1, h2⟩ := hold L g hL hg
    exact h.rowbox L k g h1 hk h2
  · obtain ⟨h1, h2, h3, h4⟩ := h.extf b hb
    refine ⟨h1, h2, h3, fun L hL e => ?_⟩
    obtain ⟨_, h5, h6⟩ := hold L b hL e
    exact h4 L h5 h6
theorem repL_setNil {R : Reader} {sz : Nat} : ∀ {cs : List PV} {us : List Value} {off : Nat}, RepL R cs us → cs[off]? = some (.v (.slice none 0 0)) → RepL R (setAt cs off [.sl sz []]) us ∧ us[off]? = some (.slice none 0 0)
  | [], _, off, h, hx => by simp at hx
  | c :: cs, _, 0, .cons h1 h2, hx => by
    simp at hx
    subst hx
    cases h1
    refine ⟨?_, rfl⟩
    show RepL R (([] : List PV) ++ [PV.sl sz []] ++ cs) _
    exact .cons (.sl sz [] none 0 (fun _ _ => undef) (fun k row hk => by simp at hk) (.inl rfl) (fun k row _ _ hk => by simp at hk) (Nat.le_refl _)) h2
  | c :: cs, _, off + 1, .cons h1 h2, hx => by
    obtain ⟨h3, h4⟩ := repL_setNil (off := off) (sz := sz) h2 (by simpa using hx)
    refine ⟨?_, by simpa using h4⟩
    have : setAt (c :: cs) (off + 1) [PV.sl sz []] = c :: setAt cs off [PV.sl sz []] := by simp [setAt]
    rw [this]
    exact .cons h1 h3
/-- A nil slice in a box's cell is owned. -/
theorem awp_nilB {c : Code} {Q : AX → St → Prop} (k off sz : Nat) (e : TypeId) {cs : List PV} (hk : look σ.box k = some cs) (hc : cs[off]? = some (.v (.slice none 0 0)))
    (hw : AWp P F c Q { (σ.setBox k (setAt cs off [.sl sz []]) (keepL σ.own k off 1)) with own := (.b k off, (e, sz)) :: delL (keepL σ.own k off 1) (.b k off) }) : AWp P F c Q σ := fun γ a w hr => by
  obtain ⟨us, ty, h1, h2, h3⟩ := hr.boxes k cs hk
  obtain ⟨h4, h5⟩ := repL_setNil (sz := sz) h3 hc
  have hr1 := hr.rebox hk h1 h1 (fun _ _ => rfl) rfl rfl rfl rfl h4 (own' := keepL σ.own k off 1) (fun L x hL => by
    obtain ⟨g1, g2⟩ := lookL_keep hL
    refine ⟨g1, fun o ho => ⟨?_, rfl⟩⟩
    have hlt : off < cs.length := (List.getElem?_eq_some_iff.1 hc).1
    exact setAt_out (by simp; omega) (by simpa using g2 o ho))
  refine hw _ a w (hr1.ownNil (L0 := .b k off) (e0 := e) (sz0 := sz) ?_ ?_)
  · have hlt : off < cs.length := (List.getElem?_eq_some_iff.1 hc).1
    show ((look (σ.setBox k _ _).box k).bind (·[off]?)).map PV.av = _
    have : look (σ.setBox k (setAt cs off [PV.sl sz []]) (keepL σ.own k off 1)).box k = some (setAt cs off [PV.sl sz []]) := by simp [St.setBox, look_cons]
    rw [this]
    simp only [Option.bind_some]
    unfold setAt
    rw [List.append_assoc, List.getElem?_append_right (by simp; omega)]
    simp [Nat.min_eq_left (Nat.le_of_lt hlt)]
    rfl
  · show w.cell? ⟨γ.bx k, off, none⟩ = _
    rw [cell_of_row w _ off _ ty (0, 0) h1]
    simpa using h5
end
end Av
end Go.Proofs.YticnppnejafhdaaGreatDoor
/- Abstract states: maps whose elements are pointers to boxes. Generic. -/
namespace Go.Proofs.YticnppnejafhdaaGreatDoor
open Go.RowKit Go.Maps
open Go.Maps (Keyed)
namespace Av

/-- How a pointer reads: by its block's number. -/
def ptrR : MReader := fun v => match v with | .pointer (some ⟨g, 0, none⟩) => some (.lit (.int .i64 (g : Int)), []) | _ => none
theorem ptrR_mk (g : Nat) : ptrR (.pointer (some ⟨g, 0, none⟩)) = some (.lit (.int .i64 (g : Int)), []) := rfl
theorem ptrR_inv {v : Value} {d : DataW Unit} {ps : List MemPlace} (h : ptrR v = some (d, ps)) : ∃ g : Nat, v = .pointer (some ⟨g, 0, none⟩) ∧ d = .lit (.int .i64 (g : Int)) := by
  unfold ptrR at h
  split at h
  · rename_i g
    simp only [Option.some.injEq, Prod.mk.injEq] at h
    exact ⟨g, rfl, h.1.symm⟩
  · cases h
theorem ptrR_one {v : Value} {d : DataW Unit} {ps : List MemPlace} (h : ptrR v = some (d, ps)) : v.oneCell' = true := by
  obtain ⟨g, rfl, _⟩ := ptrR_inv h
  rfl
section
variable {P : Program} {k : TypeId} {n d : Nat} {σ : St} {o : Oper} {K : St → Prop}
/-- A look-up of a pointer, in a drawn head: the key is there. -/
theorem handq_lookup_ref {T e : TypeId} {m x : Operand} {b nn g : Nat} {G : Value → Option (DataW Unit)} {xs : List Value} {kl : Lit} {bx0 : Nat → Option (List PV)} (ho : o.op = .lookup T m x false) (hd : o.dst = some d) (hdn : d < n)
    (hm : evo (look σ.slot) m = some (.v (.map (some b)))) (hx : evo (look σ.slot) x = some (.agg (xs.map PV.v))) (hE : ∀ w, σ.ext.holds w → MapIs w P k ptrR b nn G) (Kk : Keyed P k) (ht : P.underlying T = some (.map k e)) (hz : ∀ w, (zeroValue e).run P w = .ok (.pointer none) w)
    (hkey : keyOf P k (.agg xs.toArray) = some kl) (hG : G (.agg xs.toArray) = some (.lit (.int .i64 (g : Int)))) (hbx : (bx0 (g + 1000000)).isSome = true) : HandQ P n bx0 σ o d ⟨.ref (g + 1000000) 0, none, none⟩ := by
  intro F σ1 γ a w hF hr hops hb hext Q
  have h1 : ∀ y v, evo (look σ.slot) y = some v → y ∈ o.op.operands.toList → evo (look σ1.slot) y = some v := fun y v hy hmem => by
    cases y with
    | tmp t => exact hops t v hmem hy
    | _ => exact hy
  have e1 := eval_raw hr (h1 m _ hm (by rw [ho]; simp [Op.operands]))
  have e2 := eval_aggv hr (h1 x _ hx (by rw [ho]; simp [Op.operands]))
  have hh := hE w (by rw [← hext]; exact hr.exth)
  obtain ⟨cs, hcs⟩ := Option.isSome_iff_exists.1 hbx
  have hbox : (look σ1.box (g + 1000000)).isSome := by rw [hb _ _ hcs]; rfl
  rcases hh.look false Kk ht (hz w) hkey with ⟨hno, _⟩ | ⟨v, dd, ps, hG', hR, hrun⟩
  · rw [hG] at hno; cases hno
  · rw [hG] at hG'
    cases hG'
    obtain ⟨g', rfl, hg'⟩ := ptrR_inv hR
    simp only [DataW.lit.injEq, Lit.int.injEq, true_and] at hg'
    have : g' = g := by omega
    subst this
    refine pure_ok hr hd (by rw [hF]; exact hdn) (u := .pointer (some ⟨g', 0, none⟩)) ?_ ?_ (fun j hj => by simp [AV.refs] at hj; subst hj; exact hbox)
    · simp [execOp, ho, e1, e2, hrun]
    · show _ = Value.pointer _
      rw [hr.dyn _ hbox (by omega)]
      simp
/-- A look-up of a pointer: nil, or a box. -/
theorem hand_lookup_ref {T e : TypeId} {m x : Operand} {b nn : Nat} {G : Value → Option (DataW Unit)} {xs : List Value} {kl : Lit} (ho : o.op = .lookup T m x false) (hd : o.dst = some d) (hdn : d < n)
    (hm : evo (look σ.slot) m = some (.v (.map (some b)))) (hx : evo (look σ.slot) x = some (.agg (xs.map PV.v))) (hE : ∀ w, σ.ext.holds w → MapIs w P k ptrR b nn G) (Kk : Keyed P k) (ht : P.underlying T = some (.map k e)) (hz : ∀ w, (zeroValue e).run P w = .ok (.pointer none) w)
    (hkey : keyOf P k (.agg xs.toArray) = some kl) (hbx : ∀ g : Nat, G (.agg xs.toArray) = some (.lit (.int .i64 (g : Int))) → (look σ.box (g + 1000000)).isSome = true)
    (hno : G (.agg xs.toArray) = none → K (σ.put d (.v (.pointer none))))
    (hyes : ∀ g : Nat, G (.agg xs.toArray) = some (.lit (.int .i64 (g : Int))) → K (σ.put d (.ref (g + 1000000) 0))) : Hand P n σ o K := by
  refine hand_value hd hdn fun F γ a w _ hr => ?_
  have e1 := eval_raw hr hm
  have e2 := eval_aggv hr hx
  have hsame : Turn σ.ext w w σ.ext := Turn.same hr.exth (fun _ h => h) (fun _ h => .inr h)
  rcases (hE w hr.exth).look false Kk ht (hz w) hkey with ⟨hG, hrun⟩ | ⟨v, dd, ps, hG, hR, hrun⟩
  · refine ⟨.v (.pointer none), .pointer none, w, σ.ext, ?_, hsame, rfl, (fun k hk => by cases hk), hno hG⟩
    simp [execOp, ho, e1, e2, hrun]
  · obtain ⟨g, rfl, rfl⟩ := ptrR_inv hR
    have hb := hbx g hG
    refine ⟨.ref (g + 1000000) 0, .pointer (some ⟨g, 0, none⟩), w, σ.ext, ?_, hsame, ?_, (fun j hj => by simp [AV.refs] at hj; subst hj; exact hb), hyes g hG⟩
    · simp [execOp, ho, e1, e2, hrun]
    · show _ = Value.pointer _
      rw [hr.dyn _ hb (by omega)]
      simp
/-- Is a pointer nil? -/
theorem hand_isNil {T T' : TypeId} {x : Operand} {u : AV} (ho : o.op = .binOp .eql T x (.const (.pointer none)) T') (hd : o.dst = some d) (hdn : d < n) (hT : P.underlying T = some (.pointer (P.pointee T))) (hx : evo (look σ.slot) x = some u) (hu : ptrB u = true ∨ u = .v (.pointer none))
    (h : K (σ.put d (.v (.bool (!ptrB u))))) : Hand P n σ o K := by
  refine hand_value hd hdn fun F γ a w _ hr => ?_
  have e1 := (evo_ok hr (fun _ _ _ hy => hy) hx).1
  refine ⟨.v (.bool (!ptrB u)), .bool (!ptrB u), w, σ.ext, ?_, Turn.same hr.exth (fun _ h => h) (fun _ h => .inr h), rfl, (fun k hk => by cases hk), h⟩
  have e2 : (ptrB u = true ∧ ∃ p, a.eval x = .pointer (some p)) ∨ (ptrB u = false ∧ a.eval x = .pointer none) := by
    rcases hu with hu | rfl
    · refine .inl ⟨hu, ?_⟩
      cases u with
      | ref k off => exact ⟨_, e1⟩
      | ept row => obtain ⟨b, off, us, e, _⟩ := e1; exact ⟨_, e⟩
      | v y =>
        cases y with
        | pointer q =>
          cases q with
          | some p => exact ⟨p, e1⟩
          | none => cases hu
        | _ => cases hu
      | _ => cases hu
    · exact .inr ⟨rfl, e1⟩
  have e3 : a.eval (.const (.pointer none)) = .pointer none := rfl
  rcases e2 with ⟨h1, p, h2⟩ | ⟨h1, h2⟩
  · rw [h1]
    simp [execOp, ho, h2, e3, eqGuard, binOp, run_equal_pointer_nil w T (some p) hT]
  · rw [h1]
    simp [execOp, ho, h2, e3, eqGuard, binOp, run_equal_pointer_nil w T none hT]
/-- A fresh box is put into the map: from then on its name is its block's number. -/
theorem hand_mapUpdate_ref {T e : TypeId} {m x v : Operand} {b nn kb : Nat} {G : Value → Option (DataW Unit)} {xs : List Value} {kl : Lit} {E' : Nat → (Value → Option (DataW Unit)) → Ext} (ho : o.op = .mapUpdate T m x v) (hd : o.dst = none)
    (hm : evo (look σ.slot) m = some (.v (.map (some b)))) (hx : evo (look σ.slot) x = some (.agg (xs.map PV.v))) (hv : evo (look σ.slot) v = some (.ref kb 0)) (hkb : kb < 1000000) (hno : ∀ off, lookL σ.own (.b kb off) = none) (hE : ∀ w, σ.ext.holds w → MapIs w P k ptrR b nn G) (hn : nn < maxLen) (Kk : Keyed P k) (ht : P.underlying T = some (.map k e)) (hkey : keyOf P k (.agg xs.toArray) = some kl)
    (hT : ∀ w w1 G', (∀ b, σ.ext.all b → b < w.heap.size) → σ.ext.holds w → Turn (mapE P k ptrR b nn G) w w1 (mapE P k ptrR b (nn + 1) G') → Turn σ.ext w w1 (E' (nn + 1) G'))
    (h : ∀ (g : Nat) (G' : Value → Option (DataW Unit)), look σ.box (g + 1000000) = none → G' (.agg xs.toArray) = some (.lit (.int .i64 (g : Int))) → (∀ y, y ≠ .agg xs.toArray → G' y = G y) → K (({ σ with ext := E' (nn + 1) G' } : St).ren kb (g + 1000000))) : Hand P n σ o K := by
  classical
  intro F γ a w _ hr Q
  have e1 := eval_raw hr hm
  have e2 := eval_aggv hr hx
  obtain ⟨e3, e4⟩ := evo_ok hr (fun _ _ _ hy => hy) hv
  have hbox := e4 kb (by simp [AV.refs])
  have e3' : a.eval v = .pointer (some ⟨γ.bx kb, 0, none⟩) := e3
  obtain ⟨w1, hrun, h1, hg⟩ := (hE w hr.exth).put Kk ht hn hkey (ptrR_mk (γ.bx kb))
  have htn := hT w w1 _ (fun b hb => (hr.extf b hb).2.1) hr.exth (Turn.grown hg rfl h1 (fun _ hx => hx) (fun _ hx => hx.elim))
  obtain ⟨hnone, hrel⟩ := (hr.turn htn).ren (kb := kb) hbox hkb rfl hno
  have hex : (execOp a.eval o).run P w = .ok .skip w1 := by simp [execOp, ho, e1, e2, e3', hrun]
  unfold Oper.wp
  rw [hex]
  show ∃ σ' γ', K σ' ∧ Rel F σ' γ' (a.put o.dst undef) w1
  rw [hd]
  exact ⟨_, _, h (γ.bx kb) _ hnone (if_pos rfl) (fun y hy => if_neg hy), hrel⟩
end
end Av
end Go.Proofs.YticnppnejafhdaaGreatDoor
/- Keys of the monitor's maps: uses of links, links. -/
namespace Go.Proofs.YticnppnejafhdaaGreatDoor
open Go.RowKit Go.WideMaps Go.Maps Go.ChangeShapes
open Go.Maps (Keyed)
set_option maxRecDepth 100000

theorem Tryz.useRow : (103 : TypeId) < Tryz.prog.types.size := of_decide_eq_true (by kernel_rfl)
theorem Tryz.useKeyed : Keyed Tryz.prog 103 := Keyed.of_law (deep_law_laid Tryz.kLaid (m := 2) (by omega) Tryz.useRow (by kernel_rfl) (by rw [Tryz.underlying103]))
theorem Tryz.useType : Tryz.prog.keyType 103 = true := by kernel_rfl
theorem Tryz.useCells : Tryz.prog.cellsOf 103 = 4 := by kernel_rfl
theorem Tryz.lCells : Tryz.prog.cellsOf 100 = 2 := by kernel_rfl
theorem Tryz.lArr : ArrKey Tryz.prog 100 3 2 := ⟨Tryz.underlying100, by kernel_rfl, by kernel_rfl, Tryz.lCells⟩
theorem Tryz.lRow : (100 : TypeId) < Tryz.prog.types.size := of_decide_eq_true (by kernel_rfl)
theorem Tryz.lKeyed : Keyed Tryz.prog 100 := Keyed.of_law (deep_law_laid Tryz.kLaid (m := 2) (by omega) Tryz.lRow (by kernel_rfl) Tryz.lArr.wide)
theorem keyOf_link {a b : Int} (ha : Num64 a) (hb : Num64 b) : ∃ kl, keyOf Tryz.prog 100 (.agg #[.int .i64 a, .int .i64 b]) = some kl := ⟨_, keyOf_pair Tryz.lArr Tryz.underlying3 Tryz.kTypes ha hb⟩
theorem keyOf_use {a b c d : Int} (ha : Num64 a) (hb : Num64 b) (hc : Num64 c) (hd : Num64 d) : ∃ kl, keyOf Tryz.prog 103 (.agg #[.int .i64 a, .int .i64 b, .int .i64 c, .int .i64 d]) = some kl := by
  obtain ⟨m, hm⟩ := Tryz.kTypes
  unfold keyOf
  simp only [Tryz.underlying103]
  rw [if_pos (by simp [Tryz.useType, Value.formed, Tryz.underlying103, Tryz.useCells]), hm]
  unfold Program.keyLits
  simp only [Tryz.underlying103, Value.cells, Tryz.useCells]
  have h64a : (Lit.int .i64 a).wf = true := ha
  have h64b : (Lit.int .i64 b).wf = true := hb
  have h64c : (Lit.int .i64 c).wf = true := hc
  have h64d : (Lit.int .i64 d).wf = true := hd
  cases m with
  | zero => exact absurd hm (by intro h; have := Tryz.useRow; rw [h] at this; revert this; decide)
  | succ m => simp [Program.keyLits, Tryz.underlying3, Tryz.kOne, h64a, h64b, h64c, h64d]
theorem keyLits_int {n : Nat} {x : Value} {ls : List Lit} (h : Tryz.prog.keyLits (n + 1) 3 [x] = some ls) : ∃ a : Int, x = .int .i64 a ∧ Num64 a := by
  unfold Program.keyLits at h
  rw [Tryz.underlying3] at h
  cases x with
  | int q a =>
    dsimp only at h
    split at h
    · rename_i hq
      obtain ⟨rfl, hw⟩ := hq
      exact ⟨a, rfl, hw⟩
    · cases h
  | _ => cases h
theorem keyOf_use_inv {key : Value} {kl : Lit} (h : keyOf Tryz.prog 103 key = some kl) : ∃ a b c d : Int, key = .agg #[.int .i64 a, .int .i64 b, .int .i64 c, .int .i64 d] ∧ Num64 a ∧ Num64 b ∧ Num64 c ∧ Num64 d := by
  obtain ⟨m, hm⟩ := Tryz.kTypes
  unfold keyOf at h
  simp only [Tryz.underlying103] at h
  split at h
  · rename_i hf
    rw [Bool.and_eq_true] at hf
    obtain ⟨_, hf⟩ := hf
    cases key with
    | agg cs =>
      simp only [Value.formed, Tryz.underlying103, Tryz.useCells, beq_iff_eq] at hf
      obtain ⟨l⟩ := cs
      match l, hf with
      | [x1, x2, x3, x4], _ =>
        rw [hm] at h
        cases m with
        | zero => exact absurd hm (by intro h; have := Tryz.useRow; rw [h] at this; revert this; decide)
        | succ m =>
          unfold Program.keyLits at h
          simp only [Tryz.underlying103, Value.cells, Tryz.useCells] at h
          simp only [Tryz.kOne, List.drop_succ_cons, List.drop_zero, List.take_succ_cons, List.take_zero, List.take_nil, List.mapM_cons, List.mapM_nil] at h
          cases e1 : Tryz.prog.keyLits (m + 2) 3 [x1] with
          | none => simp [e1] at h
          | some l1 =>
            cases e2 : Tryz.prog.keyLits (m + 2) 3 [x2] with
            | none => simp [e1, e2] at h
            | some l2 =>
              cases e3 : Tryz.prog.keyLits (m + 2) 3 [x3] with
              | none => simp [e1, e2, e3] at h
              | some l3 =>
                cases e4 : Tryz.prog.keyLits (m + 2) 3 [x4] with
                | none => simp [e1, e2, e3, e4] at h
                | some l4 =>
                  obtain ⟨a, rfl, ha⟩ := keyLits_int e1
                  obtain ⟨b, rfl, hb⟩ := keyLits_int e2
                  obtain ⟨c, rfl, hc⟩ := keyLits_int e3
                  obtain ⟨d, rfl, hd⟩ := keyLits_int e4
                  exact ⟨a, b, c, d, rfl, ha, hb, hc, hd⟩
    | tuple cs => simp [Value.formed] at hf
    | _ => simp [Value.formed, Tryz.underlying103] at hf
  · cases h
end Go.Proofs.YticnppnejafhdaaGreatDoor
/- The uses of links that a record has, each with a box of its own: as boxes and owned rows of an abstract state. -/
namespace Go.Proofs.YticnppnejafhdaaGreatDoor
open Go.RowKit
open Nd Rc Mo
open Av

/-- A use of a link for a frame; g: its record's block; al: the record's attempts. -/
structure Us where
  (fl fr fm tt : Int) (g : Nat) (al : List Att)
def Us.row (u : Us) : List PV := [ip 0, .sl 8 (u.al.map Att.pv), .v (.slice none 0 0)]
def dynBox (U : List Us) : List (Nat × List PV) := U.map fun u => (u.g + 1000000, u.row)
def dynOwn (T : TypeId) (U : List Us) : List (Av.Loc × (TypeId × Nat)) := U.map fun u => (.b (u.g + 1000000) 1, (T, 8))
theorem look_dyn_small {U : List Us} {d : Nat} (h : d < 1000000) : Av.look (dynBox U) d = none := by
  induction U with
  | nil => rfl
  | cons u U ih =>
    unfold dynBox at ih ⊢
    rw [List.map_cons, Av.look_cons, if_neg (by omega), ih]
theorem look_dyn {U : List Us} {g : Nat} : Av.look (dynBox U) (g + 1000000) = (U.find? fun u => u.g == g).map Us.row := by
  induction U with
  | nil => rfl
  | cons u U ih =>
    unfold dynBox at ih ⊢
    rw [List.map_cons, Av.look_cons]
    by_cases h : u.g = g
    · rw [if_pos (by omega), List.find?_cons_of_pos (by simpa using h)]; rfl
    · rw [if_neg (by omega), ih, List.find?_cons_of_neg (by simpa using h)]
theorem lookL_dyn_s {T : TypeId} {U : List Us} {t : Nat} : lookL (dynOwn T U) (.s t) = none := by
  induction U with
  | nil => rfl
  | cons u U ih =>
    unfold dynOwn at ih ⊢
    rw [List.map_cons, Av.lookL_cons, if_neg (by simp), ih]
theorem lookL_dyn_b {T : TypeId} {U : List Us} {g : Nat} : lookL (dynOwn T U) (.b (g + 1000000) 1) = (U.find? fun u => u.g == g).map fun _ => (T, 8) := by
  induction U with
  | nil => rfl
  | cons u U ih =>
    unfold dynOwn at ih ⊢
    rw [List.map_cons, Av.lookL_cons]
    by_cases h : u.g = g
    · rw [if_pos (by rw [h]), List.find?_cons_of_pos (by simpa using h)]; rfl
    · rw [if_neg (by simp; exact fun e => h (by omega)), ih, List.find?_cons_of_neg (by simpa using h)]
theorem filter_dyn_s {T : TypeId} {U : List Us} {t : Nat} : List.filter (fun x => !x.1 == Av.Loc.s t) (dynOwn T U) = dynOwn T U := by
  refine List.filter_eq_self.2 fun x hx => ?_
  obtain ⟨u, _, rfl⟩ := List.mem_map.1 hx
  rfl
theorem keepL_dyn {T : TypeId} {U : List Us} {k o n : Nat} (hk : k < 1000000) : Av.keepL (dynOwn T U) k o n = dynOwn T U := by
  refine List.filter_eq_self.2 fun x hx => ?_
  obtain ⟨u, _, rfl⟩ := List.mem_map.1 hx
  show (!(decide (u.g + 1000000 = k) && _)) = true
  rw [decide_eq_false (by omega)]; rfl
theorem dynBox_nil : dynBox [] = [] := rfl
theorem dynOwn_nil (T : TypeId) : dynOwn T [] = [] := rfl
theorem allS_dyn {f : Nat → Option (List PV)} {U : List Us} : Av.AllS f (dynBox U) ↔ ∀ u ∈ U, f (u.g + 1000000) = some u.row := by
  induction U with
  | nil => exact ⟨fun _ u h => (by cases h), fun _ => trivial⟩
  | cons u U ih =>
    unfold dynBox at ih ⊢
    rw [List.map_cons]
    show (_ ∧ _) ↔ _
    rw [ih]
    simp
theorem allO_dyn {σ σ' : Av.St} {T : TypeId} {U : List Us} : Av.AllO σ σ' (dynOwn T U) ↔ ∀ u ∈ U, Av.lookL σ.own (.b (u.g + 1000000) 1) = some (T, 8) ∧ σ'.avAt (.b (u.g + 1000000) 1) = σ.avAt (.b (u.g + 1000000) 1) := by
  induction U with
  | nil => exact ⟨fun _ u h => (by cases h), fun _ => trivial⟩
  | cons u U ih =>
    unfold dynOwn at ih ⊢
    rw [List.map_cons]
    show (_ ∧ _) ↔ _
    rw [ih]
    simp
end Go.Proofs.YticnppnejafhdaaGreatDoor
