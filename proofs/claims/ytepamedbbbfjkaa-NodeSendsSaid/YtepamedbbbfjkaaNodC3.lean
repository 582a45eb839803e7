/- Walks: the functions that NodeSends hands on; ContainsFunc of duties. -/
import Derived.Test.YtepamedbbbfjkaaNodC2
import Derived.Test.YtepamedbbbfjkaaNodAw
namespace Go.Proofs.Ytepamedbbbfjkaa
open Go.RowKit
open Nd

/-- A duty's cell is this one. -/
def sameC (y : Du) (xs xo xf xt xl : Int) : Bool := decide (y.cs = xs ∧ y.co = xo ∧ y.cf = xf ∧ y.ct = xt ∧ y.cl = xl)
theorem sends1_any (h : Ho) (cl : Int) (g : Nat) (w : World) (hc : w.cell? ⟨g, 5, none⟩ = some (.int .i64 cl)) (hg : g < w.heap.size) :
    Calls Try.prog 21 #[.agg #[.int .i64 h.fl, .int .i64 h.fr, .slice h.A h.ak.length h.c], .pointer (some ⟨g, 0, none⟩)] w fun e w' => e = .returned (.bool (h.fl == cl)) ∧ Below w.heap.size w w' := by
  go_enter Try.func21, Try.ntmps21
  go_wp2_with fail
  go_ret
  exact ⟨rfl, (Below.refl _ _).alloc (Nat.le_refl _) _⟩
theorem sends4_any (y : Du) (w : World) : Calls Try.prog 27 #[.agg #[.int .i64 y.cs, .int .i64 y.co, .int .i64 y.cf, .int .i64 y.ct, .int .i64 y.cl, .bool y.se, .bool y.ex, .int .i64 y.fi, .int .i64 y.un]] w fun e w' => e = .returned (.bool (!y.se)) ∧ Below w.heap.size w w' := by
  go_enter Try.func27, Try.ntmps27
  go_wp2_with fail
  go_ret
  exact ⟨rfl, (Below.refl _ _).alloc (Nat.le_refl _) _⟩

set_option maxHeartbeats 2000000 in
theorem sends2_any (y : Du) (ki xs xo xf xt xl fr : Int) (g : Nat) (w : World) (hc : Row w g [.int .i64 ki, .int .i64 xs, .int .i64 xo, .int .i64 xf, .int .i64 xt, .int .i64 xl, .int .i64 fr]) (hg : g < w.heap.size) :
    Calls Try.prog 23 #[.agg #[.int .i64 y.cs, .int .i64 y.co, .int .i64 y.cf, .int .i64 y.ct, .int .i64 y.cl, .bool y.se, .bool y.ex, .int .i64 y.fi, .int .i64 y.un], .pointer (some ⟨g, 0, none⟩)] w fun e w' => e = .returned (.bool (y.se && sameC y xs xo xf xt xl)) ∧ Below w.heap.size w w' := by
  obtain ⟨cs, co, cf, ct, cl, se, ex, fi, un⟩ := y
  dsimp only
  have hg' : ¬ w.heap.size = g := by omega
  unfold Row at hc
  cases se
  all_goals
    go_enter Try.func23, Try.ntmps23
    go_wp2_with fail
    all_goals
      go_ret
      refine ⟨ret_bool ?_, (Below.refl _ _).alloc (Nat.le_refl _) _⟩
      first | rfl | (simp [sameC]; done) | (simp_all [sameC]; done)

set_option maxHeartbeats 2000000 in
theorem sends3_any (y : Du) (ki xs xo xf xt xl fr : Int) (g : Nat) (w : World) (hc : Row w g [.int .i64 ki, .int .i64 xs, .int .i64 xo, .int .i64 xf, .int .i64 xt, .int .i64 xl, .int .i64 fr]) (hg : g < w.heap.size) :
    Calls Try.prog 26 #[.agg #[.int .i64 y.cs, .int .i64 y.co, .int .i64 y.cf, .int .i64 y.ct, .int .i64 y.cl, .bool y.se, .bool y.ex, .int .i64 y.fi, .int .i64 y.un], .pointer (some ⟨g, 0, none⟩)] w fun e w' => e = .returned (.bool (!y.se && sameC y xs xo xf xt xl)) ∧ Below w.heap.size w w' := by
  obtain ⟨cs, co, cf, ct, cl, se, ex, fi, un⟩ := y
  dsimp only
  have hg' : ¬ w.heap.size = g := by omega
  unfold Row at hc
  cases se
  all_goals
    go_enter Try.func26, Try.ntmps26
    go_wp2_with fail
    all_goals
      go_ret
      refine ⟨ret_bool ?_, (Below.refl _ _).alloc (Nat.le_refl _) _⟩
      first | rfl | (simp [sameC]; done) | (simp_all [sameC]; done)

theorem contD_any (p : Du → Bool) (g : FuncId) (cb : Array Value) (l : List Du) (A : Option Addr) (c : Nat) (w : World) (eg : ∀ args w, (callFunc g args).run Try.prog w = .ok (.enter g args) w)
    (hA : Lies w w.heap.size 9 A (l.map Du.row)) (hl : l.length ≤ 1000000) (hp : ∀ W, Below w.heap.size w W → ∀ a, a ∈ l → Calls Try.prog g (#[.agg #[.int .i64 a.cs, .int .i64 a.co, .int .i64 a.cf, .int .i64 a.ct, .int .i64 a.cl, .bool a.se, .bool a.ex, .int .i64 a.fi, .int .i64 a.un]] ++ cb) W fun e w' => e = .returned (.bool (p a)) ∧ Below W.heap.size W w') :
    Calls Try.prog 22 #[.slice A l.length c, .func (.func g) #[] cb] w fun e w' => e = .returned (.bool (l.any p)) ∧ Below w.heap.size w w' := by
  have con := indexD_any p g cb l A c w eg hA hl hp
  have HT : Hid (decide (0 ≤ idxP p l 0) = l.any p) := Lib.hid (by
    rcases idx_find p l with ⟨h1, h2⟩ | ⟨i, a, h1, h2, h3, h4⟩
    · rw [h1]
      symm
      rw [show decide ((0 : Int) ≤ -1) = false from rfl, Bool.eq_false_iff]
      intro h
      obtain ⟨x, hx, hpx⟩ := List.any_eq_true.1 h
      exact List.find?_eq_none.1 h2 x hx hpx
    · rw [h3]
      symm
      rw [show decide ((0 : Int) ≤ (i : Int)) = true from decide_eq_true (by omega)]
      exact List.any_eq_true.2 ⟨a, List.mem_of_getElem? h1, h2⟩)
  generalize idxP p l 0 = T at *
  generalize l.any p = R at *
  generalize l.length = n at *
  have Con := Lib.hid con
  clear con hA hp
  go_enter Try.func22, Try.ntmps22
  go_wp2_with (go_at_call 46; (with_reducible refine Con.out.mono ?_); rintro e w' ⟨rfl, hb⟩)
  go_ret
  exact ⟨ret_bool HT.out, hb⟩
end Go.Proofs.Ytepamedbbbfjkaa
