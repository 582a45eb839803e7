import Derived.Test.YtkdigdnacggknaaZNodP
import Derived.Test.YtkdigdnacggknaaZNod1
import Derived.Test.YtkdigdnacggknaaZChk
import Derived.Test.YtkdigdnacggknaaZRoom
/- Walks: when frames are under way. -/
namespace Go.Proofs.Ytkdigdnacggknaa
open Go.RowKit
open Nd Rc Mo

theorem Lies.later {w w' : World} {sz : Nat} {A : Option Addr} {xs : List (List Value)} (h : Lies w w.heap.size sz A xs) (hb : Below w.heap.size w w') : Lies w' w'.heap.size sz A xs := (h.below hb).more hb.size
theorem own_form2 {w : World} {b : Nat} {e : TypeId} {s : Nat} {v : Value} {n : Nat} {x : List Value} (h : w.ownsRow b e s v n x) : ∃ A c, v = .slice A n c := by
  rcases h.2 with ⟨rfl, rfl⟩ | ⟨g, cap, cur, rfl, _⟩
  · exact ⟨_, _, rfl⟩
  · exact ⟨_, _, rfl⟩
theorem own_type2 {w : World} {base : Nat} {e t : TypeId} {size : Nat} {v : Value} {n : Nat} {xs cs : List Value} {g : Nat} (h : w.ownsRow base e size v n xs) (hg : some g = v.ownBlock) (hb : Blk w g t cs) : t = e := by
  rcases h.2 with ⟨rfl, _⟩ | ⟨g', cap, cur, rfl, _, e3, _⟩
  · cases hg
  · simp only [Value.ownBlock, Option.some.injEq] at hg
    subst hg
    unfold Blk at hb
    rw [e3] at hb
    injection hb with hb
    injection hb with _ hb
    exact hb.symm
theorem Blk.news2 {w : World} {g : Nat} {t : TypeId} {cs : List Value} (h : Blk w g t cs) : ∀ j u, cs[j]? = some u → w.cell? ((⟨g, 0, none⟩ : Addr).add j) = some u := fun j u hu => by rw [add_off]; exact (h.row j).trans hu

set_option maxHeartbeats 1000000 in
theorem release_any (f : Fl) (n : Int) (hf : fault f = 0) (h0 : 0 ≤ n) (h1 : n ≤ 1000000) (w : World) :
    Calls Try.prog 68 #[.agg #[.int .i64 f.id, .int .i64 f.fr, .int .i64 f.tn, .int .i64 f.pe, .int .i64 f.ph, .int .i64 f.dl], .int .i64 n] w fun e w' => e = .returned (.tuple #[.int .i64 (rel f n), .int .i64 0]) ∧ Below w.heap.size w w' := by
  have con := fun W => alone_any f W
  rw [hf] at con
  obtain ⟨_, _, _, hp, hq, hdl, _⟩ := fault_zero hf
  have hm0 : 0 ≤ n * f.pe := Int.mul_nonneg h0 (by omega)
  have hm1 : n * f.pe ≤ 1000000 * f.pe := Int.mul_le_mul_of_nonneg_right h1 (by omega)
  unfold rel
  obtain ⟨m, hmm⟩ : ∃ m, m = n * f.pe := ⟨_, rfl⟩
  have hw1 : IntKind.i64.wrap (n * f.pe) = m := by rw [← hmm, IntKind.wrap_i64]; omega
  rw [← hmm] at hm0 hm1 ⊢
  have hw2 : IntKind.i64.wrap (f.ph + m) = f.ph + m := by rw [IntKind.wrap_i64]; omega
  have d0 : decide (n < 0) = false := decide_eq_false (by omega)
  have d1 : decide (1099511627776 < n) = false := decide_eq_false (by omega)
  have d2 : decide (1099511627776 < f.ph + m) = false := decide_eq_false (by omega)
  clear hf
  obtain ⟨id, fr, tn, pe, ph, dl⟩ := f
  dsimp only at *
  have HMM := Lib.hid hmm.symm
  have Con := Lib.hid con
  clear con hmm
  go_enter Try.func68, Try.ntmps68
  go_wp2_with (first | (go_at_call 88; (with_reducible refine (Con.out _).mono ?_); rintro e w2 ⟨rfl, hb2⟩; have r2 := (Row.new w [.int .i64 id, .int .i64 fr, .int .i64 tn, .int .i64 pe, .int .i64 ph, .int .i64 dl] 37).below hb2 (by simp); unfold Row at r2) | fail)
  go_ret2
  exact ⟨by first | rfl | (rw [HMM.out]; done) | simp [HMM.out], ((Below.refl _ _).alloc (Nat.le_refl _) _).trans (hb2.mono (by simp))⟩

set_option maxHeartbeats 1000000 in
theorem Window_any (f : Fl) (n : Int) (hf : fault f = 0) (h0 : 0 ≤ n) (h1 : n ≤ 1000000) (w : World) :
    Calls Try.prog 37 #[.agg #[.int .i64 f.id, .int .i64 f.fr, .int .i64 f.tn, .int .i64 f.pe, .int .i64 f.ph, .int .i64 f.dl], .int .i64 n] w fun e w' => e = .returned (.tuple #[.int .i64 (rel f n), .int .i64 (rel f n + f.pe - 1), .int .i64 0]) ∧ Below w.heap.size w w' := by
  have con := fun W => release_any f n hf h0 h1 W
  obtain ⟨_, _, _, hp, hq, hdl, _⟩ := fault_zero hf
  have hm0 : 0 ≤ n * f.pe := Int.mul_nonneg h0 (by omega)
  have hm1 : n * f.pe ≤ 1000000 * f.pe := Int.mul_le_mul_of_nonneg_right h1 (by omega)
  unfold rel at con ⊢
  generalize hmm : n * f.pe = m at *
  clear hmm
  clear hf
  obtain ⟨id, fr, tn, pe, ph, dl⟩ := f
  dsimp only at *
  have Con := Lib.hid con
  clear con
  have hw1 : IntKind.i64.wrap (ph + m + pe - 1) = ph + m + pe - 1 := by rw [IntKind.wrap_i64]; omega
  have hw2 : IntKind.i64.wrap (ph + m + pe) = ph + m + pe := by rw [IntKind.wrap_i64]; omega
  go_enter Try.func37, Try.ntmps37
  go_wp2_with (first | (go_at_call 68; (with_reducible refine (Con.out _).mono ?_); rintro e w2 ⟨rfl, hb2⟩; have r2 := (Row.new w [.int .i64 id, .int .i64 fr, .int .i64 tn, .int .i64 pe, .int .i64 ph, .int .i64 dl] 37).below hb2 (by simp); unfold Row at r2) | fail)
  go_quiet (fail)
  go_wp2_with fail
  go_ret3
  exact ⟨rfl, below_drewN (((Below.refl _ _).alloc (Nat.le_refl _) _).trans (hb2.mono (by simp))) _⟩

set_option maxHeartbeats 1000000 in
theorem Due_any (f : Fl) (n : Int) (hf : fault f = 0) (h0 : 0 ≤ n) (h1 : n ≤ 1000000) (w : World) :
    Calls Try.prog 70 #[.agg #[.int .i64 f.id, .int .i64 f.fr, .int .i64 f.tn, .int .i64 f.pe, .int .i64 f.ph, .int .i64 f.dl], .int .i64 n] w fun e w' => e = .returned (.tuple #[.int .i64 (rel f n + f.dl - 1), .int .i64 0]) ∧ Below w.heap.size w w' := by
  have con := fun W => release_any f n hf h0 h1 W
  obtain ⟨_, _, _, hp, hq, hdl, _⟩ := fault_zero hf
  have hm0 : 0 ≤ n * f.pe := Int.mul_nonneg h0 (by omega)
  have hm1 : n * f.pe ≤ 1000000 * f.pe := Int.mul_le_mul_of_nonneg_right h1 (by omega)
  unfold rel at con ⊢
  generalize hmm : n * f.pe = m at *
  clear hmm
  clear hf
  obtain ⟨id, fr, tn, pe, ph, dl⟩ := f
  dsimp only at *
  have Con := Lib.hid con
  clear con
  have hw1 : IntKind.i64.wrap (ph + m + dl - 1) = ph + m + dl - 1 := by rw [IntKind.wrap_i64]; omega
  have hw2 : IntKind.i64.wrap (ph + m + dl) = ph + m + dl := by rw [IntKind.wrap_i64]; omega
  go_enter Try.func70, Try.ntmps70
  go_wp2_with (first | (go_at_call 68; (with_reducible refine (Con.out _).mono ?_); rintro e w2 ⟨rfl, hb2⟩; have r2 := (Row.new w [.int .i64 id, .int .i64 fr, .int .i64 tn, .int .i64 pe, .int .i64 ph, .int .i64 dl] 37).below hb2 (by simp); unfold Row at r2) | fail)
  go_ret2
  exact ⟨rfl, ((Below.refl _ _).alloc (Nat.le_refl _) _).trans (hb2.mono (by simp))⟩

set_option maxHeartbeats 1000000 in
theorem rrel_any (f : Fl) (n : Int) (hf : fault f = 0) (h0 : 0 ≤ n) (h1 : n ≤ 1000000) (w : World) :
    Calls Try.prog 47 #[.agg #[.int .i64 f.id, .int .i64 f.fr, .int .i64 f.tn, .int .i64 f.pe, .int .i64 f.ph, .int .i64 f.dl], .int .i64 n] w fun e w' => e = .returned (.int .i64 (rel f n)) ∧ Below w.heap.size w w' := by
  obtain ⟨_, _, _, hp, hq, hdl, _⟩ := fault_zero hf
  have hm0 : 0 ≤ n * f.pe := Int.mul_nonneg h0 (by omega)
  have hm1 : n * f.pe ≤ 1000000 * f.pe := Int.mul_le_mul_of_nonneg_right h1 (by omega)
  unfold rel
  obtain ⟨m, hmm⟩ : ∃ m, m = n * f.pe := ⟨_, rfl⟩
  have hw1 : IntKind.i64.wrap (n * f.pe) = m := by rw [← hmm, IntKind.wrap_i64]; omega
  rw [← hmm] at hm0 hm1 ⊢
  have hw2 : IntKind.i64.wrap (f.ph + m) = f.ph + m := by rw [IntKind.wrap_i64]; omega
  clear hf
  obtain ⟨id, fr, tn, pe, ph, dl⟩ := f
  dsimp only at *
  have HMM := Lib.hid hmm.symm
  clear hmm
  go_enter Try.func47, Try.ntmps47
  go_wp2_with fail
  go_ret
  exact ⟨by first | rfl | (rw [HMM.out]; done) | simp [HMM.out], by first | exact (Below.refl _ _).alloc (Nat.le_refl _) _ | exact Below.refl _ _⟩

set_option maxHeartbeats 1000000 in
theorem complete_any (f : Fl) (slots : Int) (va vd : Value) (hf : fault f = 0) (h0 : 0 ≤ slots) (h1 : slots ≤ 4096) (_ha : va.oneCell' = true) (_hd : vd.oneCell' = true) (w : World) :
    Calls Try.prog 42 #[.agg #[.int .i64 f.id, .int .i64 f.fr, .int .i64 f.tn, .int .i64 f.pe, .int .i64 f.ph, .int .i64 f.dl], .agg #[.int .i64 slots, va, vd]] w fun e w' => e = .returned (.int .i64 (complete f slots)) ∧ Below w.heap.size w w' := by
  obtain ⟨_, _, _, hp, hq, hdl, _⟩ := fault_zero hf
  obtain ⟨T, hT⟩ : ∃ T, T = complete f slots := ⟨_, rfl⟩
  rw [← hT]
  unfold complete at hT
  clear hf
  obtain ⟨id, fr, tn, pe, ph, dl⟩ := f
  dsimp only at *
  have hw1 : IntKind.i64.wrap (slots - ph) = slots - ph := by rw [IntKind.wrap_i64]; omega
  have hw2 : IntKind.i64.wrap (slots - ph - dl) = slots - ph - dl := by rw [IntKind.wrap_i64]; omega
  have hpe : pe ≠ 0 := by omega
  by_cases hc : 0 ≤ slots - ph - dl
  · rw [if_pos hc] at hT
    have hdv : (slots - ph - dl).tdiv pe = (slots - ph - dl) / pe := Int.tdiv_eq_ediv_of_nonneg hc
    have hd0 : 0 ≤ (slots - ph - dl) / pe := Int.ediv_nonneg hc (by omega)
    have hd1 : (slots - ph - dl) / pe ≤ slots - ph - dl := Int.ediv_le_self _ hc
    have hw3 : IntKind.i64.wrap ((slots - ph - dl) / pe) = (slots - ph - dl) / pe := by rw [IntKind.wrap_i64]; omega
    have hw4 : IntKind.i64.wrap ((slots - ph - dl) / pe + 1) = (slots - ph - dl) / pe + 1 := by rw [IntKind.wrap_i64]; omega
    have dc : decide (0 ≤ slots - ph - dl) = true := decide_eq_true hc
    have HT := Lib.hid hT
    clear hT
    generalize (slots - ph - dl) / pe = Q at *
    go_enter Try.func42, Try.ntmps42
    go_wp2_with fail
    go_ret
    exact ⟨ret_int (by rw [HT.out]), by repeat (first | exact Below.refl _ _ | refine Below.alloc ?_ (by simp) _)⟩
  · rw [if_neg hc] at hT
    have dc : decide (0 ≤ slots - ph - dl) = false := decide_eq_false hc
    have HT := Lib.hid hT
    clear hT
    go_enter Try.func42, Try.ntmps42
    go_wp2_with fail
    go_ret
    exact ⟨ret_int (by rw [HT.out]), by repeat (first | exact Below.refl _ _ | refine Below.alloc ?_ (by simp) _)⟩
end Go.Proofs.Ytkdigdnacggknaa
