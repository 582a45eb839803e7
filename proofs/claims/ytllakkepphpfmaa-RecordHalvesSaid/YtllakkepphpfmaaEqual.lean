/- Walk: Equal of package slices, at int. -/
import Derived.Test.YtllakkepphpfmaaCounts
namespace Go.Proofs.Ytllakkepphpfmaa
open Go.RowKit
open Rc

/-- The slice with address A holds the numbers xs. -/
def LiesI (w : World) (A : Option Addr) (xs : List Int) : Prop := xs ≠ [] → ∃ b off, A = some ⟨b, off, none⟩ ∧ ∀ (k : Nat) (x : Int), xs[k]? = some x → w.cell? ⟨b, off + k, none⟩ = some (.int .i64 x)

theorem LiesI.at_ {w : World} {A : Option Addr} {xs : List Int} (h : LiesI w A xs) {k : Nat} {x : Int} (hx : xs[k]? = some x) : ∃ b off, A = some ⟨b, off, none⟩ ∧ w.cell? ⟨b, off + k, none⟩ = some (.int .i64 x) := by
  obtain ⟨b, off, e, hc⟩ := h (by intro h0; subst h0; simp at hx)
  exact ⟨b, off, e, hc k x hx⟩
theorem own_liesI {w : World} {base : Nat} {v : Value} {l : List Int} (h : w.ownsRow base 3 1 v l.length (l.map (Value.int .i64))) : ∃ A c, v = .slice A l.length c ∧ LiesI w A l := by
  have h' : w.ownsRow base 3 1 v l.length (l.flatMap fun x => [Value.int .i64 x]) := by
    have : (l.flatMap fun x => [Value.int .i64 x]) = l.map (Value.int .i64) := by clear h; induction l with
      | nil => rfl
      | cons x l ih => rw [List.flatMap_cons, ih]; rfl
    rw [this]; exact h
  obtain ⟨A, c, e, hl, _⟩ := own_lies (f := fun x : Int => [Value.int .i64 x]) (fun _ => rfl) h'
  refine ⟨A, c, e, fun hne => ?_⟩
  obtain ⟨b, off, e2, _, hc⟩ := hl (by simpa using hne)
  refine ⟨b, off, e2, fun k x hx => ?_⟩
  have := hc k [.int .i64 x] (by simp [hx]) 0 _ rfl
  simpa using this

theorem eq_drop {xs ys : List Int} {k : Nat} {x y : Int} (hx : xs[k]? = some x) (hy : ys[k]? = some y) : (xs.drop k == ys.drop k) = (x == y && (xs.drop (k + 1) == ys.drop (k + 1))) := by
  rw [drop_of_get hx, drop_of_get hy]; rfl

set_option maxRecDepth 100000 in
set_option maxHeartbeats 2000000 in
theorem equal_any (xs ys : List Int) (A B : Option Addr) (ca cb : Nat) (w : World) (hA : LiesI w A xs) (hB : LiesI w B ys) (hl : xs.length ≤ 1000000) (hl' : ys.length ≤ 1000000) :
    Calls Try.prog 23 #[.slice A xs.length ca, .slice B ys.length cb] w fun e w' => e = .returned (.bool (xs == ys)) ∧ Below w.heap.size w w' := by
  obtain ⟨n, hn⟩ : ∃ n, n = xs.length := ⟨_, rfl⟩
  obtain ⟨m, hm⟩ : ∃ n, n = ys.length := ⟨_, rfl⟩
  rw [← hn, ← hm]
  rw [← hn] at hl
  rw [← hm] at hl'
  obtain ⟨T, hT⟩ : ∃ T, T = (xs == ys) := ⟨_, rfl⟩
  rw [← hT]
  have HT := Lib.hid hT
  have HN := Lib.hid hn
  have HM := Lib.hid hm
  clear hT hn hm
  by_cases hnm : n = m
  · subst hnm
    go_enter Try.func23, Try.ntmps23
    go_wp2_with fail
    go_loopw [13] (fun i wr => ∃ (k : Nat), k ≤ n ∧ i = .int .i64 k ∧ Below w.heap.size w wr ∧ Hid (∀ p : Addr, wr.cell? p = w.cell? p) ∧ Hid (T = (xs.drop k == ys.drop k))) (fun i _ => n - (intOf i).toNat)
    case atStart => exact ⟨0, Nat.zero_le _, rfl, Below.refl _ _, Lib.hid fun _ => rfl, Lib.hid (by rw [HT.out]; rfl)⟩
    case round =>
      obtain ⟨k, hk, rfl, hb, hw, hst⟩ := hrel
      by_cases hlt : k < n
      · obtain ⟨x, hx⟩ := get_of_lt (l := xs) (k := k) (by rw [← HN.out]; exact hlt)
        obtain ⟨y, hy⟩ := get_of_lt (l := ys) (k := k) (by rw [← HM.out]; exact hlt)
        have hst' : Hid (T = (x == y && (xs.drop (k + 1) == ys.drop (k + 1)))) := Lib.hid (by rw [hst.out]; exact eq_drop hx hy)
        obtain ⟨b, off, rfl, cx⟩ := hA.at_ hx
        obtain ⟨b', off', rfl, cy⟩ := hB.at_ hy
        rw [← hw.out] at cx cy
        clear hx hy hst
        go_upto_region 6 with fail
        go_cut [24] (fun s24 W => s24 = .bool (!(x == y)) ∧ Below w.heap.size w W ∧ Hid (∀ p : Addr, W.cell? p = w.cell? p))
        case first =>
          go_quiet (fail)
          go_wp2_with fail
          go_meet
          exact ⟨rfl, below_drewN hb _, Lib.hid fun p => hw.out p⟩
        case rest =>
          obtain ⟨rfl, hb2, hw2⟩ := hcut
          cases hxy : (x == y) with
          | false =>
            have hf := Lib.hid (show T = false by rw [hst'.out, hxy]; rfl)
            go_wp2_with fail
            go_ret
            exact ⟨ret_bool (by rw [hf.out]), hb2⟩
          | true =>
            have hf := Lib.hid (show T = (xs.drop (k + 1) == ys.drop (k + 1)) by rw [hst'.out, hxy]; rfl)
            go_wp2_with fail
            go_roundw
            case rel => exact ⟨k + 1, by omega, by go_num, hb2, hw2, hf⟩
            case measure => simp [intOf]; omega
      · have hf : Hid (T = true) := Lib.hid (by rw [hst.out, List.drop_of_length_le (by rw [← HN.out]; omega), List.drop_of_length_le (by rw [← HM.out]; omega)]; rfl)
        go_wp2_with fail
        go_ret
        exact ⟨ret_bool (by rw [hf.out]), hb⟩
  · have hf : Hid (T = false) := Lib.hid (by
      rw [HT.out, beq_eq_false_iff_ne]
      intro h
      apply hnm
      rw [HN.out, HM.out, h])
    have hnm' : ¬ (n : Int) = (m : Int) := by omega
    go_enter Try.func23, Try.ntmps23
    go_wp2_with fail
    go_ret
    exact ⟨ret_bool (by rw [hf.out]), Below.refl _ _⟩

end Go.Proofs.Ytllakkepphpfmaa
