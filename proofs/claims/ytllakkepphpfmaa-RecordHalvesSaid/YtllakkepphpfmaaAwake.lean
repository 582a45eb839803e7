/- Walk: awake, the example that every law of the record layer checks first. -/
import Derived.Test.YtllakkepphpfmaaCut
import Derived.Test.YtllakkepphpfmaaEnc
namespace Go.Proofs.Ytllakkepphpfmaa
open Go.RowKit
open Rc

def exA : Att := ⟨130, 2, 2, 0, 1, 0, 6, 3⟩
def exR : Rec := ⟨200, [exA], []⟩
def exS : List UInt8 := [200, 1, 1, 130, 1, 2, 2, 0, 1, 0, 6, 3, 0]
theorem ex_good : good exR = true := by decide +kernel
theorem ex_enc : encR exR = exS := by decide +kernel
theorem ex_ok : decOk exS = true := by decide +kernel
theorem ex_dec : (decP exS).r = exR := by decide +kernel
theorem ex_loss : lossP exR.al 6 2 1 0 = [[130]] := by decide +kernel
theorem ex_cut : cutR exR 100 = ⟨100, [], []⟩ := by decide +kernel
theorem ex_cutE : cutE exR 100 = 0 := by decide +kernel
theorem ex_frame : ofFrame exR.al 6 2 = [exA] := by decide +kernel
theorem ex_same : sameB exR exR = true := by decide +kernel
theorem ex_counts : countsP exR.al 0 = [0, 0, 0, 1, 0] := by decide +kernel

theorem liesA_one {w : World} {g B : Nat} {t : TypeId} {a : Att} (h : Blk w g t a.row) (hg : g < B) : LiesA w B (some ⟨g, 0, none⟩) [a] := fun _ => ⟨g, 0, rfl, hg, fun k row hr j u hu => by
  match k, hr with
  | 0, hr =>
    simp only [List.map_cons, List.getElem?_cons_zero, Option.some.injEq] at hr
    subst hr
    have := h.row j
    rw [hu] at this
    simpa using this⟩

theorem below_alloc_blk {B : Nat} {a w : World} (h : Below B a w) (hB : B ≤ w.heap.size) (o : Obj) : Below B a (w.alloc o) := h.alloc hB o

set_option maxRecDepth 100000 in
set_option maxHeartbeats 8000000 in
theorem awake_any (w : World) : Calls Try.prog 10 #[] w fun e w' => e = .returned (.bool true) ∧ Below w.heap.size w w' := by
  go_enter Try.func10, Try.ntmps10
  go_wp2_with fail
  generalize hW1 : World.alloc _ _ = W1
  have bA : Blk W1 (w.heap.size + 1) 45 exA.row := by rw [← hW1]; exact (Blk.new' _ exA.row (by simp)).alloc _
  have bR : Blk W1 (w.heap.size + 1 + 1) 28 [.int .i64 200, .slice (some ⟨w.heap.size + 1, 0, none⟩) 1 1, .slice none 0 0] := by rw [← hW1]; exact Blk.new' _ [.int .i64 200, .slice (some ⟨w.heap.size + 1, 0, none⟩) 1 1, .slice none 0 0] (by simp)
  have hb1 : Below w.heap.size w W1 := by rw [← hW1]; exact (((Below.refl _ _).alloc (Nat.le_refl _) _).alloc (by simp) _).alloc (by simp; omega) _
  clear hW1
  obtain ⟨N, hN⟩ : ∃ N, N = w.heap.size := ⟨_, rfl⟩
  rw [← hN] at bA bR hb1 ⊢
  obtain ⟨M, hM⟩ : ∃ M, M = W1.heap.size := ⟨_, rfl⟩
  have hNM : N + 1 + 1 < M := by rw [hM]; exact bR.lt
  have hlA : LiesA W1 M (some ⟨N + 1, 0, none⟩) exR.al := liesA_one bA (by omega)
  have HA : Hid (∀ W, Below M W1 W → LiesA W W.heap.size (some ⟨N + 1, 0, none⟩) exR.al) := Lib.hid fun W h => (hlA.below h).more (by rw [hM]; exact h.size)
  have HRow : Hid (∀ W, Below M W1 W → Row W (N + 1 + 1) [.int .i64 200, .slice (some ⟨N + 1, 0, none⟩) 1 1, .slice none 0 0]) := Lib.hid fun W h => (bR.below h hNM).row
  have HB : Hid (∀ W, Below M W1 W → Below N w W) := Lib.hid fun W h => hb1.trans (h.mono (by omega))
  have HN := Lib.hid hN
  have HM := Lib.hid hM
  clear hlA bA bR hb1 hN hM
  -- Encode
  have con := encode_good exR (some ⟨N + 1, 0, none⟩) none 1 0 W1 (HA.out _ (Below.refl _ _)) LiesD.nil ex_good
  rw [ex_enc] at con
  refine con.mono ?_
  clear con
  rintro e w2 ⟨rfl, hb2⟩
  rw [← HM.out] at hb2
  -- Decode
  go_wp2_with fail
  refine (decode_any exS w2 (by decide)).mono ?_
  rintro e w3 ⟨hb3, hp3⟩
  rw [if_pos ex_ok, ex_dec] at hp3
  obtain ⟨A3, D3, ca3, cd3, rfl, lA3, lD3⟩ := hp3
  have hb3' : Below M W1 w3 := hb2.trans (hb3.mono (by rw [HM.out]; have := hb2.size; omega))
  have r3 := HRow.out _ hb3'
  have z3 : N + 1 + 1 < w3.heap.size := by have := hb3'.size; have := HM.out; omega
  unfold Row at r3
  go_wp2_with fail
  generalize hW4 : World.alloc _ _ = W4
  have bB : Blk W4 w3.heap.size 28 [.int .i64 exR.slots, .slice A3 exR.al.length ca3, .slice D3 exR.dl.length cd3] := by rw [← hW4]; exact Blk.new' _ [.int .i64 exR.slots, .slice A3 exR.al.length ca3, .slice D3 exR.dl.length cd3] rfl
  have hb4 : Below M W1 W4 := by rw [← hW4]; exact hb3'.alloc (by have := HM.out; have := hb3'.size; omega) _
  have hw4 : Below w3.heap.size w3 W4 := by rw [← hW4]; exact (Below.refl _ _).alloc (Nat.le_refl _) _
  have lA4 := Lib.hid (lA3.below hw4)
  obtain ⟨G3, hG3⟩ : ∃ G, G = w3.heap.size := ⟨_, rfl⟩
  rw [← hG3] at bB lA4 z3 ⊢
  have hz4 : G3 < W4.heap.size := bB.lt
  clear hW4 r3 lA3 lD3 hw4 hG3 hb3 hb2 hb3'
  obtain ⟨K4, hK4⟩ : ∃ K, K = W4.heap.size := ⟨_, rfl⟩
  have HK4 := Lib.hid hK4
  rw [← hK4] at hz4
  clear hK4
  -- what stays from here on
  have HBk : Hid (∀ W, Below K4 W4 W → Row W G3 [.int .i64 exR.slots, .slice A3 exR.al.length ca3, .slice D3 exR.dl.length cd3] ∧ LiesA W W.heap.size A3 exR.al ∧ Below M W1 W) := Lib.hid fun W h =>
    ⟨(bB.below h hz4).row, (lA4.out.below_le h (by omega)).more (by have := h.size; have := HK4.out; omega), hb4.trans (h.mono (by have := hb4.size; have := HK4.out; have := HM.out; omega))⟩
  clear bB lA4
  -- Losses
  refine (losses_any exR (some ⟨N + 1, 0, none⟩) none 1 0 6 2 1 0 W4 (HA.out _ hb4) (by decide)).mono ?_
  rintro e w5 ⟨hb5, vo, vs, rfl, hown5, hruns5⟩
  rw [ex_loss] at hruns5
  obtain ⟨v0, rfl⟩ : ∃ v0, vs = [v0] := by
    have := hruns5.1
    match vs, this with
    | [v0], _ => exact ⟨v0, rfl⟩
  obtain ⟨hv0, hv0b⟩ := hruns5.2 0 v0 [130] rfl rfl
  rw [← HK4.out] at hb5
  obtain ⟨A5, c5, hvo⟩ := own_form hown5
  obtain ⟨I5, d5, hv0e, lI5⟩ := own_liesI hv0
  obtain ⟨h5b, h5B, h5r⟩ := HBk.out _ hb5
  have z5 : K4 ≤ w5.heap.size := by have := hb5.size; have := HK4.out; omega
  have r5 := HRow.out _ h5r
  unfold Row at r5
  have hc5 : ∃ g, A5 = some ⟨g, 0, none⟩ ∧ K4 ≤ g ∧ g < w5.heap.size ∧ w5.cell? ⟨g, 0, none⟩ = some v0 := by
    rcases hown5.2 with ⟨_, h0⟩ | ⟨g, cap, cur, hv, hg, hh, _⟩
    · cases h0
    rw [hvo] at hv
    injection hv with hv _ _
    have hcell := hown5.cells (g := g) (by rw [hvo, hv]; rfl) 0 v0 rfl
    rw [add_off] at hcell
    have hlt : g < w5.heap.size := by
      rcases Nat.lt_or_ge g w5.heap.size with h | h
      · exact h
      · rw [Array.getElem?_eq_none h] at hh; cases hh
    exact ⟨g, hv, by have := HK4.out; omega, hlt, hcell⟩
  obtain ⟨g5, rfl, hg5, hg5', hcell5⟩ := hc5
  have HO5 : Hid (∀ W, Below w5.heap.size w5 W → W.ownsRow W4.heap.size 3 1 v0 [(130 : Int)].length ([(130 : Int)].map (Value.int .i64))) := Lib.hid fun W h => own_kept hv0 fun g cs hg hb => hb.below h hb.lt
  clear lI5 hv0 hruns5 hown5 hv0b
  subst hvo
  have z5' : N + 1 + 1 < w5.heap.size := by omega
  -- Cut
  go_wp2_with fail
  refine (cut_any exR (some ⟨N + 1, 0, none⟩) none 1 0 100 w5 (HA.out _ h5r) LiesD.nil (by decide) (by decide)).mono ?_
  rintro e w6 ⟨hb6, hp6⟩
  rw [ex_cut, ex_cutE] at hp6
  obtain ⟨A6, D6, ca6, cd6, rfl, lA6, lD6⟩ := hp6
  clear lA6 lD6 r5 h5b h5B
  have h6 : Below K4 W4 w6 := hb5.trans (hb6.mono z5)
  have z6 : w5.heap.size ≤ w6.heap.size := hb6.size
  -- from here on: every world that is as w6 below w6's size
  obtain ⟨K6, hK6⟩ : ∃ K, K = w6.heap.size := ⟨_, rfl⟩
  rw [← hK6] at z6
  have H6 : Hid (∀ W, Below K6 w6 W → Row W (N + 1 + 1) [.int .i64 200, .slice (some ⟨N + 1, 0, none⟩) 1 1, .slice none 0 0] ∧ Row W G3 [.int .i64 exR.slots, .slice A3 exR.al.length ca3, .slice D3 exR.dl.length cd3] ∧ W.cell? ⟨g5, 0, none⟩ = some v0 ∧ Below M W1 W ∧ K6 ≤ W.heap.size) := Lib.hid fun W h => by
    have h' : Below K4 W4 W := h6.trans (h.mono (by omega))
    obtain ⟨q1, q2, q3⟩ := HBk.out _ h'
    exact ⟨HRow.out _ q3, q1, ((hb6.trans (h.mono z6)).cell (p := ⟨g5, 0, none⟩) hg5').trans hcell5, q3, by rw [hK6]; exact h.size⟩
  have HK6 := Lib.hid hK6
  obtain ⟨r6, b6, c6, m6, _⟩ := H6.out w6 (Below.refl _ _)
  have y0 : N + 1 + 1 < w6.heap.size := by omega
  have y1 : G3 < w6.heap.size := by omega
  have y2 : g5 < w6.heap.size := by omega
  clear hK6
  unfold Row at r6 b6
  have LA6 : Hid (∀ W, Below K6 w6 W → LiesA W W.heap.size A3 exR.al) := Lib.hid fun W h => (HBk.out _ (h6.trans (h.mono (by omega)))).2.1
  go_wp2_with fail
  generalize hW7 : World.alloc _ _ = W7
  have bH : Blk W7 w6.heap.size 28 [.int .i64 100, .slice A6 0 ca6, .slice D6 0 cd6] := by rw [← hW7]; exact Blk.new' _ [.int .i64 100, .slice A6 0 ca6, .slice D6 0 cd6] rfl
  have hb7 : Below K6 w6 W7 := by rw [← hW7]; exact (Below.refl _ _).alloc (by rw [HK6.out]; exact Nat.le_refl _) _
  rw [← HK6.out] at bH y0 y1 y2 ⊢
  have hz7 : K6 < W7.heap.size := bH.lt
  clear hW7 r6 b6 c6 m6
  have H7 : Hid (∀ W, Below W7.heap.size W7 W → Row W (N + 1 + 1) [.int .i64 200, .slice (some ⟨N + 1, 0, none⟩) 1 1, .slice none 0 0] ∧ Row W K6 [.int .i64 100, .slice A6 0 ca6, .slice D6 0 cd6] ∧ W.cell? ⟨g5, 0, none⟩ = some v0 ∧ Below M W1 W ∧ K6 < W.heap.size ∧ Below K6 w6 W) := Lib.hid fun W h => by
    have h' : Below K6 w6 W := hb7.trans (h.mono (by omega))
    obtain ⟨q1, q2, q3, q4, q5⟩ := H6.out _ h'
    exact ⟨q1, (bH.below h hz7).row, q3, q4, by have := h.size; omega, h'⟩
  obtain ⟨_, _, _, m7, _, _⟩ := H7.out W7 (Below.refl _ _)
  -- Same
  refine (same_any exR exR A3 D3 (some ⟨N + 1, 0, none⟩) none ca3 cd3 1 0 W7 (LA6.out _ hb7) LiesD.nil (HA.out _ m7) LiesD.nil (by decide) (by decide) (by decide) (by decide)).mono ?_
  rw [ex_same]
  rintro e w8 ⟨rfl, hb8⟩
  obtain ⟨r8, h8, c8, m8, z8, k8⟩ := H7.out _ hb8
  have y3 : g5 < w8.heap.size := by omega
  unfold Row at r8 h8
  subst hv0e
  go_wp2_with fail
  generalize hW9 : World.alloc _ _ = W9
  have bI : Blk W9 w8.heap.size 3 [.int .i64 130] := by rw [← hW9]; exact Blk.new' _ [.int .i64 130] rfl
  have hb9 : Below W7.heap.size W7 W9 := by rw [← hW9]; exact hb8.alloc hb8.size _
  clear hW9 r8 h8 c8 m8 z8 k8
  have lI : LiesI W9 (some ⟨w8.heap.size, 0, none⟩) [130] := fun _ => ⟨_, 0, rfl, fun k x hx => by
    match k, hx with
    | 0, hx => simp at hx; subst hx; exact bI.row 0⟩
  obtain ⟨_, _, _, m9, _, k9⟩ := H7.out _ hb9
  have lJ : LiesI W9 I5 [130] := by
    obtain ⟨I', d', e', l'⟩ := own_liesI (HO5.out W9 (hb6.trans (k9.mono z6)))
    injection e' with e' _ _
    subst e'
    exact l'
  refine (equal_any [130] [130] I5 (some ⟨w8.heap.size, 0, none⟩) d5 1 W9 lJ lI (by decide) (by decide)).mono ?_
  rintro e w10 ⟨rfl, hb10⟩
  have hb10' : Below W7.heap.size W7 w10 := hb9.trans (hb10.mono hb9.size)
  obtain ⟨r10, h10, c10, m10, z10, k10⟩ := H7.out _ hb10'
  unfold Row at r10 h10
  clear bI lI lJ m9 k9 hb9
  have t10 : (([130] : List Int) == [130]) = true := by decide
  rw [t10]
  clear t10
  -- Attempts
  go_wp2_with fail
  refine (attempts2_any exR (some ⟨N + 1, 0, none⟩) none 1 0 6 2 w10 (HA.out _ m10) (by decide)).mono ?_
  rw [ex_frame]
  rintro e w11 ⟨hb11, va, rfl, hown11⟩
  obtain ⟨A11, c11, hva⟩ := own_form hown11
  subst hva
  have hb11' : Below W7.heap.size W7 w11 := hb10'.trans (hb11.mono hb10'.size)
  obtain ⟨r11, h11, c11', m11, z11, k11⟩ := H7.out _ hb11'
  unfold Row at r11 h11
  clear hown11 r10 h10 c10 m10 z10 k10
  -- Counts
  go_wp2_with fail
  refine (counts_any exR (some ⟨N + 1, 0, none⟩) none 1 0 w11 (HA.out _ m11) (by decide) (by decide)).mono ?_
  rw [show exR.dl.length = 0 from rfl, ex_counts]
  rintro e w12 ⟨rfl, hb12⟩
  have hfin : Below N w w12 := HB.out _ (m11.trans (hb12.mono (by have := m11.size; have := HM.out; omega)))
  have heq : ∀ W, (Op.equalIn 10000 53 (.agg #[.int .i64 0, .int .i64 0, .int .i64 0, .int .i64 1, .int .i64 0]) (.agg #[.int .i64 0, .int .i64 0, .int .i64 0, .int .i64 1, .int .i64 0])).run Try.prog W = .ok true W := fun _ => by kernel_rfl
  simp only [cntV, List.map_cons, List.map_nil]
  go_wp2_with fail
  go_ret
  exact ⟨rfl, by rw [← HN.out]; exact hfin⟩
end Go.Proofs.Ytllakkepphpfmaa
