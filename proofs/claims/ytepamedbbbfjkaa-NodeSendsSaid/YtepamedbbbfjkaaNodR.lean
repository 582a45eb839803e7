/- Walks: find of package node and of its reference; the binary search, add. -/
import Derived.Test.YtepamedbbbfjkaaNodQ
namespace Go.Proofs.Ytepamedbbbfjkaa
open Go.RowKit
open Nd
theorem idxP_map (p : Hd → Bool) : ∀ (l : List Ho) (k : Int), idxP (fun h => p h.d) l k = idxP p (l.map Ho.d) k
  | [], _ => rfl
  | h :: l, k => by simp only [idxP, List.map_cons]; rw [idxP_map p l]
theorem findH_eq (l : List Ho) (id : Int) : idxP (fun h : Ho => h.fl == id) l 0 = findH (l.map Ho.d) id := idxP_map (fun h => h.fl == id) l 0

set_option maxRecDepth 100000 in
set_option maxHeartbeats 1000000 in
theorem indexH_any (p : Ho → Bool) (g : FuncId) (cb : Array Value) (l : List Ho) (A : Option Addr) (c : Nat) (w : World) (eg : ∀ args w, (callFunc g args).run Try.prog w = .ok (.enter g args) w)
    (hA : Lies w w.heap.size 3 A (l.map Ho.row)) (hl : l.length ≤ 1000000) (hp : ∀ W, Below w.heap.size w W → ∀ a, a ∈ l → Calls Try.prog g (#[.agg #[.int .i64 a.fl, .int .i64 a.fr, .slice a.A a.ak.length a.c]] ++ cb) W fun e w' => e = .returned (.bool (p a)) ∧ Below W.heap.size W w') :
    Calls Try.prog 17 #[.slice A l.length c, .func (.func g) #[] cb] w fun e w' => e = .returned (.int .i64 (idxP p l 0)) ∧ Below w.heap.size w w' := by
  obtain ⟨n, hn⟩ : ∃ n, n = l.length := ⟨_, rfl⟩
  rw [← hn] at hl ⊢
  have HN := Lib.hid hn
  obtain ⟨T, hT⟩ : ∃ T, T = idxP p l 0 := ⟨_, rfl⟩
  rw [← hT]
  have HT := Lib.hid hT
  have HP := Lib.hid hp
  clear hn hT hp
  go_enter Try.func17, Try.ntmps17
  go_wp2_with fail
  go_loopw [8] (fun i wr => ∃ (k : Nat), k ≤ n ∧ i = .int .i64 k ∧ Below w.heap.size w wr ∧ Hid (T = idxP p (l.drop k) k)) (fun i _ => n - (intOf i).toNat)
  case atStart => exact ⟨0, Nat.zero_le _, rfl, Below.refl _ _, Lib.hid (by rw [HT.out]; rfl)⟩
  case round =>
    obtain ⟨k, hk, rfl, hb, hst⟩ := hrel
    by_cases hlt : k < n
    · obtain ⟨a, ha⟩ := get_of_lt (l := l) (k := k) (by rw [← HN.out]; exact hlt)
      obtain ⟨b, off, rfl, hbB, hcs⟩ := (Lies.below hA hb).at_ ha
      have c0 := hcs k a ha 0 _ rfl
      have c1 := hcs k a ha 1 _ rfl
      have c2 := hcs k a ha 2 _ rfl
      simp only [Nat.add_zero, Nat.mul_one] at c0 c1 c2
      have hst' : Hid (T = if p a = true then (k : Int) else idxP p (l.drop (k + 1)) ((k : Int) + 1)) := Lib.hid (by rw [hst.out, drop_of_get ha]; rfl)
      have hcall := HP.out wr hb a (List.mem_of_getElem? ha)
      clear hcs ha hst
      cases hq : p a with
      | true =>
        rw [hq] at hcall
        have hf := Lib.hid (show T = (k : Int) by rw [hst'.out, if_pos hq])
        clear hst' hq
        go_wp2_with (go_at_fn g; refine hcall.mono ?_; rintro e w2 ⟨rfl, hb2⟩)
        go_ret
        exact ⟨ret_int (by rw [hf.out]), hb.trans (hb2.mono hb.size)⟩
      | false =>
        rw [hq] at hcall
        have hf := Lib.hid (show T = idxP p (l.drop (k + 1)) ((k + 1 : Nat) : Int) by rw [hst'.out, if_neg (by rw [hq]; decide)]; rfl)
        clear hst' hq
        go_wp2_with (go_at_fn g; refine hcall.mono ?_; rintro e w2 ⟨rfl, hb2⟩)
        go_roundw
        case rel => exact ⟨k + 1, by omega, by go_num, hb.trans (hb2.mono hb.size), hf⟩
        case measure => simp [intOf]; omega
    · have hf : Hid (T = -1) := Lib.hid (by rw [hst.out, List.drop_of_length_le (by rw [← HN.out]; omega)]; rfl)
      go_wp2_with fail
      go_ret
      exact ⟨ret_int (by rw [hf.out]), hb⟩

theorem hfind1_any (h : Ho) (id : Int) (g : Nat) (w : World) (hc : w.cell? ⟨g, 0, none⟩ = some (.int .i64 id)) (hg : g < w.heap.size) :
    Calls Try.prog 58 #[.agg #[.int .i64 h.fl, .int .i64 h.fr, .slice h.A h.ak.length h.c], .pointer (some ⟨g, 0, none⟩)] w fun e w' => e = .returned (.bool (h.fl == id)) ∧ Below w.heap.size w w' := by
  go_enter Try.func58, Try.ntmps58
  go_wp2_with fail
  go_ret
  exact ⟨rfl, (Below.refl _ _).alloc (Nat.le_refl _) _⟩

theorem hfind_any (l : List Ho) (id : Int) (A : Option Addr) (c : Nat) (w : World) (hA : LiesH w w.heap.size A l) (hl : l.length ≤ 1000000) :
    Calls Try.prog 31 #[.slice A l.length c, .int .i64 id] w fun e w' => e = .returned (.int .i64 (findH (l.map Ho.d) id)) ∧ Below w.heap.size w w' := by
  have hb1 : Below w.heap.size w (w.alloc (.cells #[.int .i64 id] 3)) := (Below.refl _ _).alloc (Nat.le_refl _) _
  have con := indexH_any (fun h => h.fl == id) 58 #[.pointer (some ⟨w.heap.size, 0, none⟩)] l A c (w.alloc (.cells #[.int .i64 id] 3)) (enters_of Try.func58 (by kernel_rfl) rfl)
    ((hA.1.below hb1).more (by simp)) hl (fun W hb a _ => hfind1_any a id w.heap.size W ((hb.cell (p := ⟨w.heap.size, 0, none⟩) (by simp)).trans (by simp)) (by have := hb.size; simp at this; omega))
  rw [findH_eq] at con
  have Con := Lib.hid con
  clear con hA
  generalize findH (l.map Ho.d) id = T at *
  generalize l.length = n at *
  go_enter Try.func31, Try.ntmps31
  go_wp2_with (go_at_call 17; (with_reducible refine Con.out.mono ?_); rintro e w2 ⟨rfl, hb2⟩)
  go_ret
  exact ⟨rfl, hb1.trans (hb2.mono (by simp))⟩

set_option maxHeartbeats 1000000 in
theorem rhfind_any (l : List Ho) (id : Int) (A : Option Addr) (c : Nat) (w : World) (hA : LiesH w w.heap.size A l) (hl : l.length ≤ 1000000) :
    Calls Try.prog 38 #[.slice A l.length c, .int .i64 id] w fun e w' => e = .returned (.int .i64 (findH (l.map Ho.d) id)) ∧ w = w' := by
  obtain ⟨n, hn⟩ : ∃ n, n = l.length := ⟨_, rfl⟩
  rw [← hn] at hl ⊢
  have HN := Lib.hid hn
  obtain ⟨T, hT⟩ : ∃ T, T = findH (l.map Ho.d) id := ⟨_, rfl⟩
  rw [← hT]
  have HT : Hid (T = idxP (fun h : Ho => h.fl == id) l 0) := Lib.hid (by rw [hT, findH_eq])
  have hA1 := hA.1
  clear hn hT hA
  go_enter Try.func38, Try.ntmps38
  go_wp2_with fail
  go_loop [5] (fun i => ∃ (k : Nat), k ≤ n ∧ i = .int .i64 k ∧ Hid (T = idxP (fun h : Ho => h.fl == id) (l.drop k) k)) (fun i => n - (intOf i).toNat)
  case atStart => exact ⟨0, Nat.zero_le _, rfl, Lib.hid (by rw [HT.out]; rfl)⟩
  case round =>
    obtain ⟨k, hk, rfl, hst⟩ := hrel
    by_cases hlt : k < n
    · obtain ⟨a, ha⟩ := get_of_lt (l := l) (k := k) (by rw [← HN.out]; exact hlt)
      obtain ⟨b, off, rfl, hbB, hcs⟩ := hA1.at_ ha
      have c0 := hcs k a ha 0 _ rfl
      simp only [Nat.add_zero] at c0
      have hst' : Hid (T = if (a.fl == id) = true then (k : Int) else idxP (fun h : Ho => h.fl == id) (l.drop (k + 1)) ((k : Int) + 1)) := Lib.hid (by rw [hst.out, drop_of_get ha]; rfl)
      clear hcs ha hst
      cases hq : (a.fl == id) with
      | true =>
        have hf := Lib.hid (show T = (k : Int) by rw [hst'.out, if_pos hq])
        clear hst'
        go_wp2_with fail
        go_ret
        exact ⟨ret_int (by rw [hf.out]), rfl⟩
      | false =>
        have hf := Lib.hid (show T = idxP (fun h : Ho => h.fl == id) (l.drop (k + 1)) ((k + 1 : Nat) : Int) by rw [hst'.out, if_neg (by rw [hq]; decide)]; rfl)
        clear hst'
        go_wp2_with fail
        go_round
        case rel => exact ⟨k + 1, by omega, by go_num, hf⟩
        case measure => simp [intOf]; omega
    · have hf : Hid (T = -1) := Lib.hid (by rw [hst.out, List.drop_of_length_le (by rw [← HN.out]; omega)]; rfl)
      go_wp2_with fail
      go_ret
      exact ⟨ret_int (by rw [hf.out]), rfl⟩

theorem isNaN_any (n : Int) (w : World) : Calls Try.prog 70 #[.int .i64 n] w fun e w' => e = .returned (.bool false) ∧ w = w' := by
  go_enter Try.func70, Try.ntmps70
  go_wp2
  go_ret
  simp
def cmpI (x y : Int) : Int := if x < y then -1 else if y < x then 1 else 0
theorem cmp_any (x y : Int) (w : World) : Calls Try.prog 61 #[.int .i64 x, .int .i64 y] w fun e w' => e = .returned (.int .i64 (cmpI x y)) ∧ w = w' := by
  go_enter Try.func61, Try.ntmps61
  go_wp2_with (go_at_call 70; refine (isNaN_any _ _).mono ?_; rintro e w' ⟨rfl, rfl⟩)
  all_goals
    go_ret
    exact ⟨ret_int (by unfold cmpI; repeat' split; all_goals first | rfl | omega), rfl⟩
theorem add1_any (h : Ho) (id : Int) (w : World) :
    Calls Try.prog 60 #[.agg #[.int .i64 h.fl, .int .i64 h.fr, .slice h.A h.ak.length h.c], .int .i64 id] w fun e w' => e = .returned (.int .i64 (cmpI h.fl id)) ∧ Below w.heap.size w w' := by
  go_enter Try.func60, Try.ntmps60
  go_wp2_with (go_at_call 61; refine (cmp_any _ _ _).mono ?_; rintro e w' ⟨rfl, rfl⟩)
  go_ret
  exact ⟨rfl, (Below.refl _ _).alloc (Nat.le_refl _) _⟩

/-- The numbers of flows ascend. -/
def UpH (l : List Ho) : Prop := ∀ (i j : Nat) (a b : Ho), i < j → l[i]? = some a → l[j]? = some b → a.fl < b.fl
def lowH (l : List Ho) (id : Int) : Nat := (l.takeWhile (fun h => decide (h.fl < id))).length
theorem lowH_of {l : List Ho} {id : Int} {i : Nat} (hi : i ≤ l.length) (h1 : ∀ k a, k < i → l[k]? = some a → a.fl < id) (h2 : ∀ a, l[i]? = some a → id ≤ a.fl) : lowH l id = i := by
  induction l generalizing i with
  | nil => simp at hi; subst hi; rfl
  | cons x l ih =>
    unfold lowH
    cases i with
    | zero =>
      have := h2 x rfl
      rw [List.takeWhile_cons, if_neg (by simp; omega)]; rfl
    | succ i =>
      have := h1 0 x (by omega) rfl
      rw [List.takeWhile_cons, if_pos (by simpa using this), List.length_cons]
      congr 1
      exact ih (by simpa using hi) (fun k a hk ha => h1 (k + 1) a (by omega) (by simpa using ha)) (fun a ha => h2 a (by simpa using ha))

set_option maxRecDepth 100000 in
set_option maxHeartbeats 4000000 in
theorem bin_any (l : List Ho) (id : Int) (A : Option Addr) (c : Nat) (w : World) (hA : LiesH w w.heap.size A l) (hl : l.length ≤ 1000000) (hup : UpH l) :
    Calls Try.prog 59 #[.slice A l.length c, .int .i64 id, .func (.func 60) #[] #[]] w fun e w' => Below w.heap.size w w' ∧ ∃ b, e = .returned (.tuple #[.int .i64 (lowH l id), .bool b]) := by
  obtain ⟨n, hn⟩ : ∃ n, n = l.length := ⟨_, rfl⟩
  rw [← hn] at hl ⊢
  have HN := Lib.hid hn
  obtain ⟨T, hT⟩ : ∃ T, T = lowH l id := ⟨_, rfl⟩
  rw [← hT]
  have HT := Lib.hid hT
  have HA := Lib.hid (fun W (h : Below w.heap.size w W) => (LiesH.later hA h).1)
  have HU := Lib.hid hup
  clear hn hT hA hup
  go_enter Try.func59, Try.ntmps59
  go_wp2_with fail
  go_loopw [9, 10] (fun s9 s10 wr => ∃ (i j : Nat), i ≤ j ∧ j ≤ n ∧ s9 = .int .i64 i ∧ s10 = .int .i64 j ∧ Below w.heap.size w wr ∧ Hid ((∀ k a, k < i → l[k]? = some a → a.fl < id) ∧ (∀ k a, j ≤ k → l[k]? = some a → id ≤ a.fl))) (fun s9 s10 _ => (intOf s10).toNat - (intOf s9).toNat)
  case atStart => exact ⟨0, n, Nat.zero_le _, Nat.le_refl _, rfl, rfl, Below.refl _ _, Lib.hid ⟨fun k a hk => by omega, fun k a hk ha => by have := (List.getElem?_eq_some_iff.1 ha).1; rw [← HN.out] at this; omega⟩⟩
  case round =>
    obtain ⟨i, j, hij, hjn, rfl, rfl, hb, hst⟩ := hrel
    by_cases hlt : i < j
    · obtain ⟨a, ha⟩ := get_of_lt (l := l) (k := (i + j) / 2) (by rw [← HN.out]; omega)
      obtain ⟨b, off, rfl, hbB, hcs⟩ := (HA.out _ hb).at_ ha
      have c0 := hcs _ a ha 0 _ rfl
      have c1 := hcs _ a ha 1 _ rfl
      have c2 := hcs _ a ha 2 _ rfl
      simp only [Nat.add_zero] at c0 c1 c2
      have Ha := Lib.hid ha
      have hmn : (i + j) / 2 < n := by omega
      have hmz : ((i : Int) + (j : Int)) / 2 < (n : Int) := by omega
      clear hcs ha
      by_cases hlow : a.fl < id
      · have hc : cmpI a.fl id = -1 := by unfold cmpI; rw [if_pos hlow]
        have hnx : Hid ((∀ (k : Nat) (x : Ho), k < (i + j) / 2 + 1 → l[k]? = some x → x.fl < id) ∧ (∀ (k : Nat) (x : Ho), j ≤ k → l[k]? = some x → id ≤ x.fl)) := Lib.hid ⟨fun k x hk hx => by
          by_cases e : k = (i + j) / 2
          · subst e
            rw [Ha.out] at hx
            injection hx with hx
            rw [← hx]; exact hlow
          · have := HU.out k ((i + j) / 2) x a (by omega) hx Ha.out
            omega, hst.out.2⟩
        have con := fun W => add1_any a id W
        rw [hc] at con
        have Con := Lib.hid con
        clear con hc hst
        go_wp2_with (go_at_call 60; (with_reducible refine (Con.out _).mono ?_); rintro e w2 ⟨rfl, hb2⟩)
        go_roundw
        case rel => exact ⟨(i + j) / 2 + 1, j, by omega, hjn, by go_num, rfl, hb.trans (hb2.mono hb.size), hnx⟩
        case measure => simp [intOf]; omega
      · have hc : decide (cmpI a.fl id < 0) = false := decide_eq_false (by unfold cmpI; rw [if_neg hlow]; split <;> omega)
        have hnx : Hid ((∀ (k : Nat) (x : Ho), k < i → l[k]? = some x → x.fl < id) ∧ (∀ (k : Nat) (x : Ho), (i + j) / 2 ≤ k → l[k]? = some x → id ≤ x.fl)) := Lib.hid ⟨hst.out.1, fun k x hk hx => by
          by_cases e : k = (i + j) / 2
          · subst e
            rw [Ha.out] at hx
            injection hx with hx
            rw [← hx]; omega
          · have := HU.out ((i + j) / 2) k a x (by omega) Ha.out hx
            omega⟩
        have Con := Lib.hid (fun W => add1_any a id W)
        generalize cmpI a.fl id = C at *
        clear hst
        go_wp2_with (go_at_call 60; (with_reducible refine (Con.out _).mono ?_); rintro e w2 ⟨rfl, hb2⟩)
        go_roundw
        case rel => exact ⟨i, (i + j) / 2, by omega, by omega, rfl, by go_num, hb.trans (hb2.mono hb.size), hnx⟩
        case measure => simp [intOf]; omega
    · have hji : j = i := by omega
      subst hji
      have hfin : Hid (T = j) := Lib.hid (by rw [HT.out]; exact lowH_of (by rw [← HN.out]; omega) hst.out.1 (fun a ha => hst.out.2 j a (Nat.le_refl _) ha))
      clear hst
      by_cases hjn' : j < n
      · obtain ⟨a, ha⟩ := get_of_lt (l := l) (k := j) (by rw [← HN.out]; exact hjn')
        obtain ⟨b, off, rfl, hbB, hcs⟩ := (HA.out _ hb).at_ ha
        have c0 := hcs _ a ha 0 _ rfl
        have c1 := hcs _ a ha 1 _ rfl
        have c2 := hcs _ a ha 2 _ rfl
        simp only [Nat.add_zero] at c0 c1 c2
        have Con := Lib.hid (fun W => add1_any a id W)
        generalize cmpI a.fl id = C at *
        clear hcs ha
        go_wp2_with (go_at_call 60; (with_reducible refine (Con.out _).mono ?_); rintro e w2 ⟨rfl, hb2⟩)
        go_ret2
        exact ⟨hb.trans (hb2.mono hb.size), _, by rw [hfin.out]; rfl⟩
      · go_wp2_with fail
        go_ret2
        exact ⟨hb, _, by rw [hfin.out]; rfl⟩
end Go.Proofs.Ytepamedbbbfjkaa
