/- Walks: what Join calls: its closures, IndexFunc, ContainsFunc, Grow (of nil), Concat (of two). -/
import Derived.Test.YtllakkepphpfmaaClone
import Derived.Lib.AppendZeros
namespace Go.Proofs.Ytllakkepphpfmaa
open Go.RowKit
open Rc

theorem own_empty {w : World} {g base cap S : Nat} {t : TypeId} {cs : Array Value} (h : w.heap[g]? = some (.cells cs t (0, 0))) (hb : base ≤ g) (hc : cap ≤ maxLen) (hs : cs.size = cap * S) : w.ownsRow base t S (.slice (some ⟨g, 0, none⟩) 0 cap) 0 [] :=
  ⟨by simp, .inr ⟨g, cap, cs, rfl, hb, h, Nat.zero_le _, hc, hs, by simp⟩⟩

theorem lessA_any (a : Att) (g : Nat) (slots : Int) (v1 v2 : Value) (w : World) (hr : Row w g [.int .i64 slots, v1, v2]) (hg : g < w.heap.size) :
    Calls Try.prog 53 #[.agg #[.int .i64 a.s, .int .i64 a.f, .int .i64 a.cs, .int .i64 a.co, .int .i64 a.cf, .int .i64 a.ct, .int .i64 a.cl, .int .i64 a.o], .pointer (some ⟨g, 0, none⟩)] w fun e w' => e = .returned (.bool (decide (a.s < slots))) ∧ Below w.heap.size w w' := by
  have c0 := hr
  unfold Row at c0
  go_enter Try.func53, Try.ntmps53
  go_wp2_with fail
  go_ret
  exact ⟨rfl, (Below.refl _ _).alloc (Nat.le_refl _) _⟩

/-- the first index whose slot is less, or -1 -/
def idxA (slots : Int) : List Att → Int → Int
  | [], _ => -1
  | a :: l, k => if a.s < slots then k else idxA slots l (k + 1)
theorem idxA_any (slots : Int) : ∀ (l : List Att) (k : Int), 0 ≤ k → decide (idxA slots l k ≥ 0) = l.any fun a => decide (a.s < slots)
  | [], k, _ => by simp [idxA]
  | a :: l, k, hk => by
    simp only [idxA, List.any_cons]
    by_cases h : a.s < slots
    · simp [h, hk]
    · simp only [h, if_false, decide_false, Bool.false_or]
      exact idxA_any slots l (k + 1) (by omega)

set_option maxRecDepth 100000 in
set_option maxHeartbeats 2000000 in
theorem indexA_any (l : List Att) (A : Option Addr) (c g : Nat) (slots : Int) (v1 v2 : Value) (w : World) (hA : LiesA w w.heap.size A l) (hl : l.length ≤ 1000000) (hr : Row w g [.int .i64 slots, v1, v2]) (hg : g < w.heap.size) :
    Calls Try.prog 58 #[.slice A l.length c, .func (.func 53) #[] #[.pointer (some ⟨g, 0, none⟩)]] w fun e w' => e = .returned (.int .i64 (idxA slots l 0)) ∧ Below w.heap.size w w' := by
  obtain ⟨n, hn⟩ : ∃ n, n = l.length := ⟨_, rfl⟩
  rw [← hn] at hl ⊢
  have HN := Lib.hid hn
  obtain ⟨T, hT⟩ : ∃ T, T = idxA slots l 0 := ⟨_, rfl⟩
  rw [← hT]
  have HT := Lib.hid hT
  have HR : Hid (∀ W, Below w.heap.size w W → Row W g [.int .i64 slots, v1, v2] ∧ g < W.heap.size) := Lib.hid fun W h => ⟨hr.below h hg, Nat.lt_of_lt_of_le hg h.size⟩
  clear hn hT hr
  go_enter Try.func58, Try.ntmps58
  go_wp2_with fail
  go_loopw [8] (fun i wr => ∃ (k : Nat), k ≤ n ∧ i = .int .i64 k ∧ Below w.heap.size w wr ∧ Hid (T = idxA slots (l.drop k) k)) (fun i _ => n - (intOf i).toNat)
  case atStart => exact ⟨0, Nat.zero_le _, rfl, Below.refl _ _, Lib.hid (by rw [HT.out]; rfl)⟩
  case round =>
    obtain ⟨k, hk, rfl, hb, hst⟩ := hrel
    by_cases hlt : k < n
    · obtain ⟨a, ha⟩ := get_of_lt (l := l) (k := k) (by rw [← HN.out]; exact hlt)
      obtain ⟨b, off, rfl, hbB, hcs⟩ := (hA.below hb).at_ ha
      obtain ⟨c0, c1, c2, c3, c4, c5, c6, c7⟩ := hcs k a ha
      have hst' : Hid (T = if a.s < slots then (k : Int) else idxA slots (l.drop (k + 1)) ((k : Int) + 1)) := Lib.hid (by rw [hst.out, drop_of_get ha]; rfl)
      clear hcs ha hst
      go_wp2_with fail
      refine (lessA_any a g slots v1 v2 wr (HR.out _ hb).1 (HR.out _ hb).2).mono ?_
      rintro e w2 ⟨rfl, hb2⟩
      have hb2' : Below w.heap.size w w2 := hb.trans (hb2.mono hb.size)
      by_cases hs : a.s < slots
      · have hf := Lib.hid (show T = (k : Int) by rw [hst'.out, if_pos hs])
        rw [show decide (a.s < slots) = true by simpa using hs]
        go_wp2_with fail
        go_ret
        exact ⟨ret_int (by rw [hf.out]), hb2'⟩
      · have hf := Lib.hid (show T = idxA slots (l.drop (k + 1)) ((k + 1 : Nat) : Int) by rw [hst'.out, if_neg hs]; rfl)
        rw [show decide (a.s < slots) = false by simpa using hs]
        go_wp2_with fail
        go_roundw
        case rel => exact ⟨k + 1, by omega, by go_num, hb2', hf⟩
        case measure => simp [intOf]; omega
    · have hf : Hid (T = -1) := Lib.hid (by rw [hst.out, List.drop_of_length_le (by rw [← HN.out]; omega)]; rfl)
      go_wp2_with fail
      go_ret
      exact ⟨ret_int (by rw [hf.out]), hb⟩

theorem containsA_any (l : List Att) (A : Option Addr) (c g : Nat) (slots : Int) (v1 v2 : Value) (w : World) (hA : LiesA w w.heap.size A l) (hl : l.length ≤ 1000000) (hr : Row w g [.int .i64 slots, v1, v2]) (hg : g < w.heap.size) :
    Calls Try.prog 52 #[.slice A l.length c, .func (.func 53) #[] #[.pointer (some ⟨g, 0, none⟩)]] w fun e w' => e = .returned (.bool (l.any fun a => decide (a.s < slots))) ∧ Below w.heap.size w w' := by
  have h0 := Lib.hid (idxA_any slots l 0 (by omega))
  go_enter Try.func52, Try.ntmps52
  go_wp2_with fail
  refine (indexA_any l A c g slots v1 v2 w hA hl hr hg).mono ?_
  rintro e w1 ⟨rfl, hb⟩
  go_wp2_with fail
  go_ret
  exact ⟨ret_bool h0.out, hb⟩

set_option maxRecDepth 100000 in
set_option maxHeartbeats 2000000 in
theorem growA_any (n : Nat) (w : World) (hn : n ≤ 1000000) :
    Calls Try.prog 65 #[.slice none 0 0, .int .i64 n] w fun e w' => Below w.heap.size w w' ∧ ∃ v, e = .returned v ∧ w'.ownsRow w.heap.size 45 8 v 0 [] := by
  obtain ⟨i0, hi, hz0, hz1, hz2⟩ := info_parts Try.infoAtt
  by_cases h0 : n = 0
  · subst h0
    go_enter Try.func65, Try.ntmps65
    go_wp2_with fail
    go_ret
    exact ⟨Below.refl _ _, _, rfl, World.ownsRow_nil _ _ _ _⟩
  · have hpos : 0 < n := by omega
    have hrun := Lib.run_append_nil_zeros (P := Try.prog) w 23 3 23 45 i0 (.agg #[.int .i64 0, .int .i64 0, .int .i64 0, .int .i64 0, .int .i64 0, .int .i64 0, .int .i64 0, .int .i64 0]) .i64 .i64 Try.underlying23 Try.underlying3 hi hz0 n hpos (by rw [hz1]; decide) (by omega) (by rw [hz2]; omega)
    have HRUN := Lib.hid hrun
    have hge := grownCap_ge w n 0 45
    have hle : grownCap w n 0 45 ≤ maxLen := grownCap_le_maxLen w n 0 45 (by unfold maxLen; omega)
    obtain ⟨cap, hcap⟩ : ∃ cap, cap = grownCap w n 0 45 := ⟨_, rfl⟩
    rw [← hcap] at hge hle HRUN
    obtain ⟨cs, hcs⟩ : ∃ cs, cs = Builtin.zeroCells (Value.cells (.agg #[.int .i64 0, .int .i64 0, .int .i64 0, .int .i64 0, .int .i64 0, .int .i64 0, .int .i64 0, .int .i64 0])) n ++ Builtin.zeroCells (Value.cells (.agg #[.int .i64 0, .int .i64 0, .int .i64 0, .int .i64 0, .int .i64 0, .int .i64 0, .int .i64 0, .int .i64 0])) (cap - n) := ⟨_, rfl⟩
    have hsz : cs.size = cap * 8 := by rw [hcs]; simp [size_zeroCells, Value.cells]; omega
    rw [← hcs] at HRUN
    have HSZ := Lib.hid hsz
    have HLE := Lib.hid hle
    clear hrun hcap hcs hsz hle hi hz0 hz1 hz2
    have hc63 : cap ≤ 9223372036854775807 := by have := HLE.out; unfold maxLen at this; omega
    go_enter Try.func65, Try.ntmps65
    go_wp2_with (at_builtin; refine Lib.wpList_append_run _ rfl _ _ _ _ rfl _ _ rfl rfl _ _ HRUN.out ?_)
    go_wp2_with fail
    go_ret
    exact ⟨((Below.refl _ _).drew).alloc (Nat.le_refl _) _, _, rfl, own_empty (heap_alloc_new w.drew _) (Nat.le_refl _) HLE.out HSZ.out⟩

theorem lessD_any (a : Dlv) (g : Nat) (slots : Int) (v1 v2 : Value) (w : World) (hr : Row w g [.int .i64 slots, v1, v2]) (hg : g < w.heap.size) :
    Calls Try.prog 55 #[.agg #[.int .i64 a.fl, .int .i64 a.fr, .int .i64 a.sl], .pointer (some ⟨g, 0, none⟩)] w fun e w' => e = .returned (.bool (decide (a.sl < slots))) ∧ Below w.heap.size w w' := by
  have c0 := hr
  unfold Row at c0
  go_enter Try.func55, Try.ntmps55
  go_wp2_with fail
  go_ret
  exact ⟨rfl, (Below.refl _ _).alloc (Nat.le_refl _) _⟩

/-- the first index whose slot is less, or -1 -/
def idxD (slots : Int) : List Dlv → Int → Int
  | [], _ => -1
  | a :: l, k => if a.sl < slots then k else idxD slots l (k + 1)
theorem idxD_any (slots : Int) : ∀ (l : List Dlv) (k : Int), 0 ≤ k → decide (idxD slots l k ≥ 0) = l.any fun a => decide (a.sl < slots)
  | [], k, _ => by simp [idxD]
  | a :: l, k, hk => by
    simp only [idxD, List.any_cons]
    by_cases h : a.sl < slots
    · simp [h, hk]
    · simp only [h, if_false, decide_false, Bool.false_or]
      exact idxD_any slots l (k + 1) (by omega)

set_option maxRecDepth 100000 in
set_option maxHeartbeats 2000000 in
theorem indexD_any (l : List Dlv) (A : Option Addr) (c g : Nat) (slots : Int) (v1 v2 : Value) (w : World) (hA : LiesD w w.heap.size A l) (hl : l.length ≤ 1000000) (hr : Row w g [.int .i64 slots, v1, v2]) (hg : g < w.heap.size) :
    Calls Try.prog 59 #[.slice A l.length c, .func (.func 55) #[] #[.pointer (some ⟨g, 0, none⟩)]] w fun e w' => e = .returned (.int .i64 (idxD slots l 0)) ∧ Below w.heap.size w w' := by
  obtain ⟨n, hn⟩ : ∃ n, n = l.length := ⟨_, rfl⟩
  rw [← hn] at hl ⊢
  have HN := Lib.hid hn
  obtain ⟨T, hT⟩ : ∃ T, T = idxD slots l 0 := ⟨_, rfl⟩
  rw [← hT]
  have HT := Lib.hid hT
  have HR : Hid (∀ W, Below w.heap.size w W → Row W g [.int .i64 slots, v1, v2] ∧ g < W.heap.size) := Lib.hid fun W h => ⟨hr.below h hg, Nat.lt_of_lt_of_le hg h.size⟩
  clear hn hT hr
  go_enter Try.func59, Try.ntmps59
  go_wp2_with fail
  go_loopw [8] (fun i wr => ∃ (k : Nat), k ≤ n ∧ i = .int .i64 k ∧ Below w.heap.size w wr ∧ Hid (T = idxD slots (l.drop k) k)) (fun i _ => n - (intOf i).toNat)
  case atStart => exact ⟨0, Nat.zero_le _, rfl, Below.refl _ _, Lib.hid (by rw [HT.out]; rfl)⟩
  case round =>
    obtain ⟨k, hk, rfl, hb, hst⟩ := hrel
    by_cases hlt : k < n
    · obtain ⟨a, ha⟩ := get_of_lt (l := l) (k := k) (by rw [← HN.out]; exact hlt)
      obtain ⟨b, off, rfl, hbB, hcs⟩ := (hA.below hb).at_ ha
      obtain ⟨c0, c1, c2⟩ := hcs k a ha
      have hst' : Hid (T = if a.sl < slots then (k : Int) else idxD slots (l.drop (k + 1)) ((k : Int) + 1)) := Lib.hid (by rw [hst.out, drop_of_get ha]; rfl)
      clear hcs ha hst
      go_wp2_with fail
      refine (lessD_any a g slots v1 v2 wr (HR.out _ hb).1 (HR.out _ hb).2).mono ?_
      rintro e w2 ⟨rfl, hb2⟩
      have hb2' : Below w.heap.size w w2 := hb.trans (hb2.mono hb.size)
      by_cases hs : a.sl < slots
      · have hf := Lib.hid (show T = (k : Int) by rw [hst'.out, if_pos hs])
        rw [show decide (a.sl < slots) = true by simpa using hs]
        go_wp2_with fail
        go_ret
        exact ⟨ret_int (by rw [hf.out]), hb2'⟩
      · have hf := Lib.hid (show T = idxD slots (l.drop (k + 1)) ((k + 1 : Nat) : Int) by rw [hst'.out, if_neg hs]; rfl)
        rw [show decide (a.sl < slots) = false by simpa using hs]
        go_wp2_with fail
        go_roundw
        case rel => exact ⟨k + 1, by omega, by go_num, hb2', hf⟩
        case measure => simp [intOf]; omega
    · have hf : Hid (T = -1) := Lib.hid (by rw [hst.out, List.drop_of_length_le (by rw [← HN.out]; omega)]; rfl)
      go_wp2_with fail
      go_ret
      exact ⟨ret_int (by rw [hf.out]), hb⟩

theorem containsD_any (l : List Dlv) (A : Option Addr) (c g : Nat) (slots : Int) (v1 v2 : Value) (w : World) (hA : LiesD w w.heap.size A l) (hl : l.length ≤ 1000000) (hr : Row w g [.int .i64 slots, v1, v2]) (hg : g < w.heap.size) :
    Calls Try.prog 54 #[.slice A l.length c, .func (.func 55) #[] #[.pointer (some ⟨g, 0, none⟩)]] w fun e w' => e = .returned (.bool (l.any fun a => decide (a.sl < slots))) ∧ Below w.heap.size w w' := by
  have h0 := Lib.hid (idxD_any slots l 0 (by omega))
  go_enter Try.func54, Try.ntmps54
  go_wp2_with fail
  refine (indexD_any l A c g slots v1 v2 w hA hl hr hg).mono ?_
  rintro e w1 ⟨rfl, hb⟩
  go_wp2_with fail
  go_ret
  exact ⟨ret_bool h0.out, hb⟩

set_option maxRecDepth 100000 in
set_option maxHeartbeats 2000000 in
theorem growD_any (n : Nat) (w : World) (hn : n ≤ 1000000) :
    Calls Try.prog 66 #[.slice none 0 0, .int .i64 n] w fun e w' => Below w.heap.size w w' ∧ ∃ v, e = .returned v ∧ w'.ownsRow w.heap.size 62 3 v 0 [] := by
  obtain ⟨i0, hi, hz0, hz1, hz2⟩ := info_parts Try.infoDlv
  by_cases h0 : n = 0
  · subst h0
    go_enter Try.func66, Try.ntmps66
    go_wp2_with fail
    go_ret
    exact ⟨Below.refl _ _, _, rfl, World.ownsRow_nil _ _ _ _⟩
  · have hpos : 0 < n := by omega
    have hrun := Lib.run_append_nil_zeros (P := Try.prog) w 24 3 24 62 i0 (.agg #[.int .i64 0, .int .i64 0, .int .i64 0]) .i64 .i64 Try.underlying24 Try.underlying3 hi hz0 n hpos (by rw [hz1]; decide) (by omega) (by rw [hz2]; omega)
    have HRUN := Lib.hid hrun
    have hge := grownCap_ge w n 0 62
    have hle : grownCap w n 0 62 ≤ maxLen := grownCap_le_maxLen w n 0 62 (by unfold maxLen; omega)
    obtain ⟨cap, hcap⟩ : ∃ cap, cap = grownCap w n 0 62 := ⟨_, rfl⟩
    rw [← hcap] at hge hle HRUN
    obtain ⟨cs, hcs⟩ : ∃ cs, cs = Builtin.zeroCells (Value.cells (.agg #[.int .i64 0, .int .i64 0, .int .i64 0])) n ++ Builtin.zeroCells (Value.cells (.agg #[.int .i64 0, .int .i64 0, .int .i64 0])) (cap - n) := ⟨_, rfl⟩
    have hsz : cs.size = cap * 3 := by rw [hcs]; simp [size_zeroCells, Value.cells]; omega
    rw [← hcs] at HRUN
    have HSZ := Lib.hid hsz
    have HLE := Lib.hid hle
    clear hrun hcap hcs hsz hle hi hz0 hz1 hz2
    have hc63 : cap ≤ 9223372036854775807 := by have := HLE.out; unfold maxLen at this; omega
    go_enter Try.func66, Try.ntmps66
    go_wp2_with (at_builtin; refine Lib.wpList_append_run _ rfl _ _ _ _ rfl _ _ rfl rfl _ _ HRUN.out ?_)
    go_wp2_with fail
    go_ret
    exact ⟨((Below.refl _ _).drew).alloc (Nat.le_refl _) _, _, rfl, own_empty (heap_alloc_new w.drew _) (Nat.le_refl _) HLE.out HSZ.out⟩

end Go.Proofs.Ytllakkepphpfmaa
