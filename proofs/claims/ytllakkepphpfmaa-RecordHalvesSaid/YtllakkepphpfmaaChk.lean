/- Walks: below, attempt, Compare, Or, compare of package record. -/
import Derived.Test.YtllakkepphpfmaaProg
import Derived.Test.YtllakkepphpfmaaReg
import Derived.StillTailTactics
import Derived.Deep.RegionHeld3
import Derived.Deep.DeepCutAuto
namespace Go.Proofs.Ytllakkepphpfmaa
open Go.RowKit
open Rc

theorem below_any (n m : Int) (w : World) : Calls Try.prog 45 #[.int .i64 n, .int .i64 m] w fun e w' => e = .returned (.bool (belowB n m)) ∧ w = w' := by
  go_enter Try.func45, Try.ntmps45
  by_cases h : 0 ≤ n
  · go_wp2
    go_ret
    simp [h, belowB]
  · go_wp2
    go_ret
    simp [belowB]; omega

theorem attempt_any (a : Att) (slots : Int) (w : World) : Calls Try.prog 61 #[.agg #[.int .i64 a.s, .int .i64 a.f, .int .i64 a.cs, .int .i64 a.co, .int .i64 a.cf, .int .i64 a.ct, .int .i64 a.cl, .int .i64 a.o], .int .i64 slots] w fun e w' => e = .returned (.bool (attB a slots)) ∧ Below w.heap.size w w' := by
  obtain ⟨s, f, cs, co, cf, ct, cl, o⟩ := a
  go_enter Try.func61, Try.ntmps61
  go_wp2_with (go_at_call 45; refine (below_any _ _ _).mono ?_; rintro e w' ⟨rfl, rfl⟩)
  all_goals
    go_ret
    exact ⟨ret_bool (by first | (simp [attB, *]; done) | (simp [attB, *]; omega) | (simp [attB, bne, *]; done)), by repeat (first | exact Below.refl _ _ | refine Below.alloc ?_ (by simp) _ )⟩

theorem isNaN_any (n : Int) (w : World) : Calls Try.prog 63 #[.int .i64 n] w fun e w' => e = .returned (.bool false) ∧ w = w' := by
  go_enter Try.func63, Try.ntmps63
  go_wp2
  go_ret
  simp

theorem cmp_any (x y : Int) (w : World) : Calls Try.prog 47 #[.int .i64 x, .int .i64 y] w fun e w' => e = .returned (.int .i64 (cmpI x y)) ∧ w = w' := by
  go_enter Try.func47, Try.ntmps47
  go_wp2_with (go_at_call 63; refine (isNaN_any _ _).mono ?_; rintro e w' ⟨rfl, rfl⟩)
  all_goals
    go_ret
    exact ⟨ret_int (by unfold cmpI; repeat' split; all_goals first | rfl | omega), rfl⟩

theorem or_any (l : List Int) (b off c : Nat) (w : World) (hn : l.length ≤ 1000) (hc : ∀ k x, l[k]? = some x → w.cell? ⟨b, off + k, none⟩ = some (.int .i64 x)) :
    Calls Try.prog 46 #[.slice (some ⟨b, off, none⟩) l.length c] w fun e w' => e = .returned (.int .i64 (orI l)) ∧ w = w' := by
  obtain ⟨n, hl⟩ : ∃ n, n = l.length := ⟨_, rfl⟩
  rw [← hl] at hn ⊢
  have HL := Lib.hid hl
  clear hl
  go_enter Try.func46, Try.ntmps46
  go_wp2
  go_loop [2, 8] (fun r i => ∃ k : Nat, k ≤ n ∧ i = .int .i64 k ∧ r = .int .i64 0 ∧ Hid (orI l = orI (l.drop k))) (fun _ i => n - (intOf i).toNat)
  case atStart => exact ⟨0, Nat.zero_le _, rfl, rfl, Lib.hid rfl⟩
  case round =>
    obtain ⟨k, hk, rfl, rfl, hst⟩ := hrel
    by_cases hlt : k < n
    · obtain ⟨x, hx⟩ := get_of_lt (l := l) (k := k) (by rw [← HL.out]; exact hlt)
      have hcx := hc k x hx
      have hd := Lib.hid (drop_of_get hx)
      clear hx
      by_cases h0 : x = 0
      · subst h0
        go_wp2
        go_round
        case rel => exact ⟨k + 1, by omega, by go_num, rfl, Lib.hid (by rw [hst.out, hd.out]; simp [orI])⟩
        case measure => simp [intOf]; omega
      · go_wp2
        go_ret
        exact ⟨ret_int (by rw [hst.out, hd.out]; simp [orI, h0]), rfl⟩
    · go_wp2
      go_ret
      exact ⟨ret_int (by rw [hst.out, List.drop_of_length_le (by rw [← HL.out]; omega)]; rfl), rfl⟩

set_option maxRecDepth 100000 in
set_option maxHeartbeats 1000000 in
theorem compare_any (x y : Att) (w : World) : Calls Try.prog 62 #[.agg #[.int .i64 x.s, .int .i64 x.f, .int .i64 x.cs, .int .i64 x.co, .int .i64 x.cf, .int .i64 x.ct, .int .i64 x.cl, .int .i64 x.o], .agg #[.int .i64 y.s, .int .i64 y.f, .int .i64 y.cs, .int .i64 y.co, .int .i64 y.cf, .int .i64 y.ct, .int .i64 y.cl, .int .i64 y.o]] w
    fun e w' => e = .returned (.int .i64 (cmpA x y)) ∧ Below w.heap.size w w' := by
  obtain ⟨s, f, cs, co, cf, ct, cl, o⟩ := x
  obtain ⟨s', f', cs', co', cf', ct', cl', o'⟩ := y
  go_enter Try.func62, Try.ntmps62
  go_upto_region 1 with fail
  go_cut [5, 6] (fun s5 s6 W => ∃ g5 g6 : Nat, s5 = .pointer (some ⟨g5, 0, none⟩) ∧ s6 = .pointer (some ⟨g6, 0, none⟩) ∧ g5 < W.heap.size ∧ g6 < W.heap.size ∧ w.heap.size + 1 < W.heap.size ∧ Below w.heap.size w W ∧
      Row W w.heap.size [.int .i64 s, .int .i64 f, .int .i64 cs, .int .i64 co, .int .i64 cf, .int .i64 ct, .int .i64 cl, .int .i64 o] ∧
      Row W (w.heap.size + 1) [.int .i64 s', .int .i64 f', .int .i64 cs', .int .i64 co', .int .i64 cf', .int .i64 ct', .int .i64 cl', .int .i64 o'] ∧
      Row W g5 [.int .i64 cs, .int .i64 co, .int .i64 cf, .int .i64 ct, .int .i64 cl] ∧ Row W g6 [.int .i64 cs', .int .i64 co', .int .i64 cf', .int .i64 ct', .int .i64 cl'])
  case first =>
    go_region
    all_goals
      go_wp2_with fail
      go_meet
      refine ⟨_, _, rfl, rfl, ?_, ?_, ?_, ?_, ?_, ?_, ?_, ?_⟩
      all_goals first
        | (simp; done)
        | (simp; omega)
        | (refine Below.drew (Below.alloc (Below.alloc (Below.alloc (Below.alloc (Below.refl _ _) ?_ _) ?_ _) ?_ _) ?_ _) <;> (simp; try omega))
        | (refine Row.drew ?_; refine Row.new' _ _ ?_; simp; done)
        | (refine Row.drew ?_; refine Row.alloc (Row.new' _ _ ?_) ?_ _ <;> simp; done)
        | (refine Row.drew ?_; refine Row.alloc (Row.alloc (Row.new' _ _ ?_) ?_ _) ?_ _ <;> (simp; try omega); done)
        | (refine Row.drew ?_; refine Row.alloc (Row.alloc (Row.alloc (Row.new' _ _ ?_) ?_ _) ?_ _) ?_ _ <;> (simp; try omega); done)
  case rest =>
    obtain ⟨g5, g6, rfl, rfl, h5, h6, hz, hb, r2, r3, r5, r6⟩ := hcut
    have x2 := r2.ext (B := wc.heap.size) (by omega)
    have x3 := r3.ext (B := wc.heap.size) (by omega)
    have x5 := r5.ext (B := wc.heap.size) h5
    have x6 := r6.ext (B := wc.heap.size) h6
    go_wp2_with fail
    refine wp_region_ext_tail wc.heap.size 30 (by kernel_rfl) (by kernel_rfl) ?_
    simp only [List.take_succ_cons, List.take_zero, List.drop_succ_cons, List.drop_zero]
    repeat (go_big_quiet_step ((go_at_call 47; exact Calls.ext_same (cmp_any _ _ _))))
    refine wpQuiet_nil ?_
    rintro _ ⟨x, rfl⟩
    have hb' := hb.trans (x.below.mono hb.size)
    obtain ⟨W, hW⟩ := x
    go_wp2_with (go_at_call 46; refine (or_any [cmpI s s', cmpI cs cs', cmpI co co', cmpI cf cf', cmpI ct ct', cmpI cl cl'] _ 0 6 _ (by simp) ?_).mono ?_)
    · exact fun k x hx => ints_get hx
    go_ret
    exact ⟨rfl, hb'.alloc (hb'.size) _⟩

end Go.Proofs.Ytllakkepphpfmaa
