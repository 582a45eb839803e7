/- Walks: EqualFunc of package slices, at slices of numbers, with the law's closure. -/
import Derived.Test.YtllakkepphpfmaaRloss
import Derived.Test.YtllakkepphpfmaaEqual
namespace Go.Proofs.Ytllakkepphpfmaa
open Go.RowKit
open Rc

theorem closure_any (xs ys : List Int) (A B : Option Addr) (ca cb : Nat) (w : World) (hA : LiesI w A xs) (hB : LiesI w B ys) (hl : xs.length ≤ 1000000) (hl' : ys.length ≤ 1000000) :
    Calls Try.prog 22 #[.slice A xs.length ca, .slice B ys.length cb] w fun e w' => e = .returned (.bool (xs == ys)) ∧ Below w.heap.size w w' := by
  go_enter Try.func22, Try.ntmps22
  go_wp2_with fail
  refine (equal_any xs ys A B ca cb w hA hB hl hl').mono ?_
  rintro e w1 ⟨rfl, hb⟩
  go_wp2_with fail
  go_ret
  exact ⟨rfl, hb⟩

/-- A slice of values, all of them in reach. -/
theorem own_at {w : World} {base n c : Nat} {t : TypeId} {A : Option Addr} {vs : List Value} (h : w.ownsRow base t 1 (.slice A n c) vs.length vs) {k : Nat} {v : Value} (hk : vs[k]? = some v) : ∃ g, A = some ⟨g, 0, none⟩ ∧ g < w.heap.size ∧ w.cell? ⟨g, k, none⟩ = some v := by
  rcases h.2 with ⟨_, h0⟩ | ⟨g, cap, cur, hv, hg, hh, _⟩
  · have : vs = [] := List.eq_nil_of_length_eq_zero h0
    subst this
    simp at hk
  · injection hv with hv _ _
    subst hv
    have hcell := h.cells (g := g) rfl k v hk
    rw [add_off] at hcell
    refine ⟨g, rfl, ?_, hcell⟩
    rcases Nat.lt_or_ge g w.heap.size with h' | h'
    · exact h'
    · rw [Array.getElem?_eq_none h'] at hh; cases hh

theorem eq_dropL {xs ys : List (List Int)} {k : Nat} {x y : List Int} (hx : xs[k]? = some x) (hy : ys[k]? = some y) : decide (xs.drop k = ys.drop k) = ((x == y) && decide (xs.drop (k + 1) = ys.drop (k + 1))) := by
  rw [drop_of_get hx, drop_of_get hy, Bool.eq_iff_iff]
  simp

set_option maxRecDepth 100000 in
set_option maxHeartbeats 2000000 in
theorem equalF_any (xs ys : List (List Int)) (vs us : List Value) (A B : Option Addr) (ca cb b1 b2 B1 B2 R1 R2 : Nat) (w : World) (hA : w.ownsRow b1 48 1 (.slice A vs.length ca) vs.length vs) (hB : w.ownsRow b2 48 1 (.slice B us.length cb) us.length us) (hx : Runs w B1 R1 vs xs) (hy : Runs w B2 R2 us ys) (hl : xs.length ≤ 1000000) (hl' : ys.length ≤ 1000000)
    (hlx : ∀ x ∈ xs, x.length ≤ 1000000) (hly : ∀ y ∈ ys, y.length ≤ 1000000) :
    Calls Try.prog 26 #[.slice A vs.length ca, .slice B us.length cb, .func (.func 22) #[] #[]] w fun e w' => e = .returned (.bool (decide (xs = ys))) ∧ Below w.heap.size w w' := by
  obtain ⟨n, hn⟩ : ∃ n, n = vs.length := ⟨_, rfl⟩
  obtain ⟨m, hm⟩ : ∃ n, n = us.length := ⟨_, rfl⟩
  have hnx : n = xs.length := by rw [hn]; exact hx.1
  have hmy : m = ys.length := by rw [hm]; exact hy.1
  rw [← hn, ← hm]
  rw [← hnx] at hl
  rw [← hmy] at hl'
  obtain ⟨T, hT⟩ : ∃ T, T = decide (xs = ys) := ⟨_, rfl⟩
  rw [← hT]
  have HT := Lib.hid hT
  have HN := Lib.hid hn
  have HM := Lib.hid hm
  have HNX := Lib.hid hnx
  have HMY := Lib.hid hmy
  have HA := Lib.hid hA
  have HB := Lib.hid hB
  have HLX := Lib.hid hlx
  have HLY := Lib.hid hly
  clear hT hn hm hnx hmy hA hB hlx hly
  by_cases hnm : n = m
  · subst hnm
    go_enter Try.func26, Try.ntmps26
    go_wp2_with fail
    go_loopw [17] (fun i wr => ∃ (k : Nat), k ≤ n ∧ i = .int .i64 k ∧ Below w.heap.size w wr ∧ Hid (T = decide (xs.drop k = ys.drop k))) (fun i _ => n - (intOf i).toNat)
    case atStart => exact ⟨0, Nat.zero_le _, rfl, Below.refl _ _, Lib.hid (by rw [HT.out]; simp)⟩
    case round =>
      obtain ⟨k, hk, rfl, hb, hst⟩ := hrel
      by_cases hlt : k < n
      · obtain ⟨x, hxk⟩ := get_of_lt (l := xs) (k := k) (by rw [← HNX.out]; exact hlt)
        obtain ⟨y, hyk⟩ := get_of_lt (l := ys) (k := k) (by rw [← HMY.out]; exact hlt)
        obtain ⟨v, hvk⟩ := get_of_lt (l := vs) (k := k) (by rw [← HN.out]; exact hlt)
        obtain ⟨u, huk⟩ := get_of_lt (l := us) (k := k) (by rw [← HM.out]; exact hlt)
        have hst' : Hid (T = ((x == y) && decide (xs.drop (k + 1) = ys.drop (k + 1)))) := Lib.hid (by rw [hst.out]; exact eq_dropL hxk hyk)
        obtain ⟨g, eA, hg, cx⟩ := own_at HA.out hvk
        obtain ⟨g', eB, hg', cy⟩ := own_at HB.out huk
        rw [← hb.cell (p := ⟨g, k, none⟩) hg] at cx
        rw [← hb.cell (p := ⟨g', k, none⟩) hg'] at cy
        obtain ⟨qx, _⟩ := hx.2 k v x hvk hxk
        obtain ⟨qy, _⟩ := hy.2 k u y huk hyk
        obtain ⟨Ax, cx', ev, lx⟩ := own_liesI (own_kept (w' := wr) qx fun g cs hg h => h.below hb h.lt)
        obtain ⟨Ay, cy', eu, ly⟩ := own_liesI (own_kept (w' := wr) qy fun g cs hg h => h.below hb h.lt)
        subst eA eB ev eu
        have hx1 := HLX.out x (List.mem_of_getElem? hxk)
        have hy1 := HLY.out y (List.mem_of_getElem? hyk)
        clear hst hxk hyk hvk huk qx qy
        go_wp2_with fail
        refine (closure_any x y Ax Ay cx' cy' wr lx ly hx1 hy1).mono ?_
        rintro e w2 ⟨rfl, hb2⟩
        have hb2' : Below w.heap.size w w2 := hb.trans (hb2.mono hb.size)
        clear lx ly cx cy
        cases hxy : (x == y) with
        | false =>
          have hf := Lib.hid (show T = false by rw [hst'.out, hxy]; rfl)
          go_wp2_with fail
          go_ret
          exact ⟨ret_bool (by rw [hf.out]), hb2'⟩
        | true =>
          have hf := Lib.hid (show T = decide (xs.drop (k + 1) = ys.drop (k + 1)) by rw [hst'.out, hxy]; rfl)
          go_wp2_with fail
          go_roundw
          case rel => exact ⟨k + 1, by omega, by go_num, hb2', hf⟩
          case measure => simp [intOf]; omega
      · have hf : Hid (T = true) := Lib.hid (by rw [hst.out, List.drop_of_length_le (by rw [← HNX.out]; omega), List.drop_of_length_le (by rw [← HMY.out]; omega)]; simp)
        go_wp2_with fail
        go_ret
        exact ⟨ret_bool (by rw [hf.out]), hb⟩
  · have hf : Hid (T = false) := Lib.hid (by
      rw [HT.out, decide_eq_false_iff_not]
      intro h
      apply hnm
      rw [HNX.out, HMY.out, h])
    have hnm' : ¬ (n : Int) = (m : Int) := by omega
    go_enter Try.func26, Try.ntmps26
    go_wp2_with fail
    go_ret
    exact ⟨ret_bool (by rw [hf.out]), Below.refl _ _⟩

end Go.Proofs.Ytllakkepphpfmaa
