/- Walks: Format and Parse of powers. -/
import Derived.Test.YtaafmckdmeikjaaDoorPowX
namespace Go.Proofs.YtaafmckdmeikjaaDoor
open Go.RowKit

open Go.Sort in
theorem below_growT (w : World) (k : Nat) (os : Array Obj) : Below w.heap.size w (grow (w.drewN k) os) :=
  ⟨rfl, rfl, rfl, by show w.heap.size ≤ (w.heap ++ os).size; rw [Array.size_append]; omega, fun j hj => by
    show (w.heap ++ os)[j]? = _
    rw [Array.getElem?_append_left hj]⟩
/-- The table of the powers of ten. -/
def TabC (w : World) : Prop := Lib.TabIs Tryd.prog w "internal/strconv.uint64pow10" .u64 Lib.pow10Tab
/-- The library's error. -/
def ErrC (w : World) : Prop := ∃ tp p, w.var? Tryd.prog "strconv.ErrRange" = some #[.iface tp p]
theorem var_below {P : Program} {w w' : World} {name : String} {x : Array Value} (hb : Below w.heap.size w w') (h : w.var? P name = some x) : w'.var? P name = some x := by
  unfold World.var? at h ⊢
  cases hg : P.globalNamed name with
  | none => rw [hg] at h; cases h
  | some g =>
    rw [hg] at h
    simp only [Option.bind_some] at h ⊢
    have hlt : g < w.heap.size := by
      refine Classical.byContradiction fun hn => ?_
      rw [Array.getElem?_eq_none (by omega)] at h
      cases h
    rw [hb.block g hlt]
    exact h
theorem TabC.below {w w' : World} (hb : Below w.heap.size w w') (h : TabC w) : TabC w' := by
  unfold TabC Lib.TabIs at h ⊢; exact var_below hb h
theorem ErrC.below {w w' : World} (hb : Below w.heap.size w w') (h : ErrC w) : ErrC w' := by
  obtain ⟨a, b, h⟩ := h; exact ⟨a, b, var_below hb h⟩
theorem itoa_any (n : Nat) (hn : n ≤ 108) (w : World) (hT : TabC w) : Calls Tryd.prog 13 #[.int .i64 n] w fun e w' => e = .returned (.string (txt (Lib.decDigits n))) ∧ Below w.heap.size w w' :=
  (Any.strconv_Itoa Tryd.laysM171 n (by omega) (by omega) w hT).mono (by rintro e w' ⟨rfl, k, os, rfl⟩; exact ⟨by rw [Lib.itoa_nonneg]; rfl, below_growT w k os⟩)
def fmtR (p : Int) : ByteArray × Int := if 1 ≤ p ∧ p ≤ 68719476736 then (txt (Lib.decDigits (dec p) ++ unitB), 0) else (txt [], 2)
theorem dec_len {n : Nat} (h : n ≤ 108) : (txt (Lib.decDigits n)).size ≤ 3 := by
  rw [dec_d3 (by omega), txt_size]
  unfold d3
  split
  · simp
  · split <;> simp

set_option maxRecDepth 100000 in
set_option maxHeartbeats 1000000 in
theorem format_any (p : Int) (w : World) (hT : TabC w) : Calls Tryd.prog 5 #[.int .i64 p] w fun e w' => e = .returned (.tuple #[.string (fmtR p).1, .int .i64 (fmtR p).2]) ∧ Below w.heap.size w w' := by
  by_cases h : 1 ≤ p ∧ p ≤ 68719476736
  case neg =>
    have HD := Lib.hid fun W => Decibels_any p W
    rw [decR_no (by omega)] at HD
    rw [show fmtR p = (txt [], 2) from if_neg h]
    dsimp only at HD ⊢
    clear h
    go_enter Tryd.func5, Tryd.ntmps5
    go_wp2_with (go_at_call 10; (with_reducible refine (HD.out _).mono ?_); rintro e w' ⟨rfl, hb⟩)
    go_ret2
    exact ⟨rfl, hb⟩
  have HD := Lib.hid fun W => Decibels_any p W
  rw [decR_ok h] at HD
  rw [show fmtR p = (txt (Lib.decDigits (dec p) ++ unitB), 0) from if_pos h]
  have hd := (dec_spec h.1).1
  generalize dec p = D at *
  obtain ⟨S, hS⟩ : ∃ S, S = txt (Lib.decDigits D) := ⟨_, rfl⟩
  have hsz : S.size ≤ 3 := by rw [hS]; exact dec_len hd
  have HI : Hid (∀ W, TabC W → Calls Tryd.prog 13 #[.int .i64 D] W fun e w' => e = .returned (.string S) ∧ Below W.heap.size W w') := Lib.hid (by rw [hS]; exact fun W hW => itoa_any D hd W hW)
  have HS : Hid (S ++ ⟨#[32, 100, 66]⟩ = txt (Lib.decDigits D ++ unitB)) := Lib.hid (by rw [hS, ← txt_add]; rfl)
  obtain ⟨T, hT'⟩ : ∃ T, T = txt (Lib.decDigits D ++ unitB) := ⟨_, rfl⟩
  rw [← hT'] at HS ⊢
  have HT := Lib.hid hT
  obtain ⟨a, ha⟩ : ∃ a : Int, a = (D : Int) := ⟨_, rfl⟩
  rw [← ha] at HD HI
  clear hS hT' h hd hT ha
  dsimp only at HD ⊢
  go_enter Tryd.func5, Tryd.ntmps5
  go_wp2_with (first | (go_at_call 10; (with_reducible refine (HD.out _).mono ?_); rintro e w' ⟨rfl, hb⟩) | (go_at_call 13; (with_reducible refine (HI.out _ (HT.out.below hb)).mono ?_); rintro e w2 ⟨rfl, hb2⟩))
  go_ret2
  exact ⟨by rw [← HS.out]; rfl, hb.trans (hb2.mono hb.size)⟩

set_option maxRecDepth 100000 in
set_option maxHeartbeats 1000000 in
theorem rformat_any (p : Int) (w : World) : Calls Tryd.prog 6 #[.int .i64 p] w fun e w' => e = .returned (.tuple #[.string (fmtR p).1, .int .i64 (fmtR p).2]) ∧ Below w.heap.size w w' := by
  by_cases h : 1 ≤ p ∧ p ≤ 68719476736
  case neg =>
    have HD := Lib.hid fun W => rDecibels_any p W
    rw [decR_no (by omega)] at HD
    rw [show fmtR p = (txt [], 2) from if_neg h]
    dsimp only at HD ⊢
    clear h
    go_enter Tryd.func6, Tryd.ntmps6
    go_wp2_with (go_at_call 14; (with_reducible refine (HD.out _).mono ?_); rintro e w' ⟨rfl, hb⟩)
    go_ret2
    exact ⟨rfl, hb⟩
  have HD := Lib.hid fun W => rDecibels_any p W
  rw [decR_ok h] at HD
  rw [show fmtR p = (txt (Lib.decDigits (dec p) ++ unitB), 0) from if_pos h]
  have hd := (dec_spec h.1).1
  generalize dec p = D at *
  obtain ⟨S, hS⟩ : ∃ S, S = txt (Lib.decDigits D) := ⟨_, rfl⟩
  have hsz : S.size ≤ 3 := by rw [hS]; exact dec_len hd
  have HI : Hid (∀ W, Calls Tryd.prog 15 #[.int .i64 D] W fun e w' => e = .returned (.string S) ∧ W = w') := Lib.hid (by rw [hS]; exact fun W => decimal_any D hd W)
  have HS : Hid (S ++ ⟨#[32, 100, 66]⟩ = txt (Lib.decDigits D ++ unitB)) := Lib.hid (by rw [hS, ← txt_add]; rfl)
  obtain ⟨T, hT'⟩ : ∃ T, T = txt (Lib.decDigits D ++ unitB) := ⟨_, rfl⟩
  rw [← hT'] at HS ⊢
  obtain ⟨a, ha⟩ : ∃ a : Int, a = (D : Int) := ⟨_, rfl⟩
  rw [← ha] at HD HI
  clear hS hT' h hd ha
  dsimp only at HD ⊢
  go_enter Tryd.func6, Tryd.ntmps6
  go_wp2_with (first | (go_at_call 14; (with_reducible refine (HD.out _).mono ?_); rintro e w' ⟨rfl, hb⟩) | (go_at_call 15; (with_reducible refine (HI.out _).mono ?_); rintro e w2 ⟨rfl, rfl⟩))
  go_ret2
  exact ⟨by rw [← HS.out]; rfl, hb⟩
end Go.Proofs.YtaafmckdmeikjaaDoor
