/- Walk: Counts of package record. -/
import Derived.Test.YtllakkepphpfmaaLoss
namespace Go.Proofs.Ytllakkepphpfmaa
open Go.RowKit
open Rc

def bump (cs : List Int) (a : Att) : List Int := if 1 ≤ a.o ∧ a.o ≤ 4 then cs.set a.o.toNat (cs.getD a.o.toNat 0 + 1) else cs
def countsP (al : List Att) (nd : Nat) : List Int := al.foldl bump [(nd : Int), 0, 0, 0, 0]

def cntV (l : List Int) : Value := .agg (l.map (Value.int .i64)).toArray

set_option maxRecDepth 100000 in
set_option maxHeartbeats 8000000 in
theorem counts_any (r : Rec) (A D : Option Addr) (ca cd : Nat) (w : World) (hA : LiesA w w.heap.size A r.al) (hla : r.al.length ≤ 1000000) (hld : r.dl.length ≤ 1000000) :
    Calls Try.prog 28 #[.agg #[.int .i64 r.slots, .slice A r.al.length ca, .slice D r.dl.length cd]] w fun e w' => e = .returned (cntV (countsP r.al r.dl.length)) ∧ Below w.heap.size w w' := by
  obtain ⟨slots, al, dl⟩ := r
  dsimp only at *
  obtain ⟨na, hna⟩ : ∃ n, n = al.length := ⟨_, rfl⟩
  obtain ⟨nd, hnd⟩ : ∃ n, n = dl.length := ⟨_, rfl⟩
  rw [← hna, ← hnd]
  rw [← hna] at hla
  rw [← hnd] at hld
  have HA := Lib.hid hna
  clear hna hnd
  obtain ⟨T, hT⟩ : ∃ T, T = countsP al nd := ⟨_, rfl⟩
  rw [← hT]
  have HT := Lib.hid hT
  clear hT
  go_enter Try.func28, Try.ntmps28
  go_wp2_with fail
  generalize hW0 : World.alloc _ _ = W0
  have bR : Blk W0 w.heap.size 28 [.int .i64 slots, .slice A na ca, .slice D nd cd] := by rw [← hW0]; exact ((Blk.new' _ [.int .i64 slots, .slice A na ca, .slice D nd cd] rfl).alloc _).alloc _
  have b2 : Blk W0 (w.heap.size + 1) 53 [.int .i64 0, .int .i64 0, .int .i64 0, .int .i64 0, .int .i64 0] := by rw [← hW0]; exact (Blk.new' _ [.int .i64 0, .int .i64 0, .int .i64 0, .int .i64 0, .int .i64 0] (by simp)).alloc _
  have b3 : Blk W0 (w.heap.size + 1 + 1) 53 [.int .i64 nd, .int .i64 0, .int .i64 0, .int .i64 0, .int .i64 0] := by rw [← hW0]; exact Blk.new' _ [.int .i64 nd, .int .i64 0, .int .i64 0, .int .i64 0, .int .i64 0] (by simp)
  have hb0 : Below w.heap.size w W0 := by rw [← hW0]; exact (((Below.refl _ _).alloc (Nat.le_refl _) _).alloc (by simp) _).alloc (by simp; omega) _
  clear hW0
  obtain ⟨N, hN⟩ : ∃ N, N = w.heap.size := ⟨_, rfl⟩
  rw [← hN] at bR b2 b3 hb0 ⊢
  have hA' : LiesA w N A al := by rw [hN]; exact hA
  have HN := Lib.hid hN
  clear hN hA
  obtain ⟨Rel, hRel⟩ : ∃ Rel : Nat → World → Prop, Rel = fun (k : Nat) (wr : World) => ∃ (c0 c1 c2 c3 c4 : Int), Blk wr (N + 1) 53 [.int .i64 0, .int .i64 0, .int .i64 0, .int .i64 0, .int .i64 0] ∧ Blk wr (N + 1 + 1) 53 [.int .i64 c0, .int .i64 c1, .int .i64 c2, .int .i64 c3, .int .i64 c4] ∧ (0 ≤ c1 ∧ c1 ≤ (k : Int)) ∧ (0 ≤ c2 ∧ c2 ≤ (k : Int)) ∧ (0 ≤ c3 ∧ c3 ≤ (k : Int)) ∧ (0 ≤ c4 ∧ c4 ≤ (k : Int)) ∧ Below N w wr ∧ Hid (T = (al.drop k).foldl bump [c0, c1, c2, c3, c4]) := ⟨_, rfl⟩
  have HRel := Lib.hid hRel
  clear hRel
  have hst0 : Rel 0 W0 := by
    rw [HRel.out]
    exact ⟨nd, 0, 0, 0, 0, b2, b3, by omega, by omega, by omega, by omega, hb0, Lib.hid (by rw [HT.out]; simp [countsP])⟩
  clear b2 b3 bR hb0
  go_loopw [15] (fun i wr => ∃ (k : Nat), k ≤ na ∧ i = .int .i64 k ∧ Rel k wr) (fun i _ => na - (intOf i).toNat)
  case atStart => exact ⟨0, Nat.zero_le _, rfl, hst0⟩
  case round =>
    obtain ⟨k, hk, rfl, hrel⟩ := hrel
    rw [HRel.out] at hrel
    obtain ⟨c0, c1, c2, c3, c4, b2, b3, h1, h2, h3, h4, hb, hst⟩ := hrel
    clear hst0
    by_cases hlt : k < na
    · obtain ⟨a, ha⟩ := get_of_lt (l := al) (k := k) (by rw [← HA.out]; exact hlt)
      obtain ⟨b, off, rfl, hbB, hcs⟩ := (hA'.below hb).at_ ha
      obtain ⟨x0, x1, x2, x3, x4, x5, x6, x7⟩ := hcs k a ha
      have hd := Lib.hid (drop_of_get ha)
      have hst1 : Hid (T = (al.drop (k + 1)).foldl bump (bump [c0, c1, c2, c3, c4] a)) := Lib.hid (by rw [hst.out, hd.out]; rfl)
      clear hcs ha hst
      go_upto_region 5 with fail
      generalize hW1 : wr.alloc _ = W1
      have ba : Blk W1 wr.heap.size 45 [.int .i64 a.s, .int .i64 a.f, .int .i64 a.cs, .int .i64 a.co, .int .i64 a.cf, .int .i64 a.ct, .int .i64 a.cl, .int .i64 a.o] := by rw [← hW1]; exact Blk.new' _ [.int .i64 a.s, .int .i64 a.f, .int .i64 a.cs, .int .i64 a.co, .int .i64 a.cf, .int .i64 a.ct, .int .i64 a.cl, .int .i64 a.o] rfl
      have hz2 := b2.lt
      have hz3 := b3.lt
      have hb1 : Below N w W1 := by rw [← hW1]; exact hb.alloc (by omega) _
      have b2' : Blk W1 (N + 1) 53 [.int .i64 0, .int .i64 0, .int .i64 0, .int .i64 0, .int .i64 0] := by rw [← hW1]; exact b2.alloc _
      have b3' : Blk W1 (N + 1 + 1) 53 [.int .i64 c0, .int .i64 c1, .int .i64 c2, .int .i64 c3, .int .i64 c4] := by rw [← hW1]; exact b3.alloc _
      have ca := ba.row
      have c3' := b3'.row
      have f3 := b3'.frozen
      unfold Row at ca c3'
      clear hW1 x0 x1 x2 x3 x4 x5 x6 x7 b2 b3
      by_cases ho : 1 ≤ a.o ∧ a.o ≤ 4
      · obtain ⟨o1, o2⟩ := ho
        have hcase : a.o = 1 ∨ a.o = 2 ∨ a.o = 3 ∨ a.o = 4 := by omega
        rcases hcase with ho | ho | ho | ho
        · have hnew : Rel (k + 1) (W1.setCell ⟨N + 1 + 1, 1, none⟩ (.int .i64 (c1 + 1))) := by
            rw [HRel.out]
            exact ⟨c0, c1 + 1, c2, c3, c4, b2'.far (p := ⟨N + 1 + 1, 1, none⟩) (by dsimp only; omega) _, b3'.set_ 1 _, by omega, by omega, by omega, by omega, hb1.setCell (p := ⟨N + 1 + 1, 1, none⟩) (by dsimp only; omega) _, Lib.hid (by rw [hst1.out]; simp [bump, ho])⟩
          go_wp2_with fail
          go_roundw
          case rel => exact ⟨k + 1, by omega, by go_num, hnew⟩
          case measure => simp [intOf]; omega
        · have hnew : Rel (k + 1) (W1.setCell ⟨N + 1 + 1, 2, none⟩ (.int .i64 (c2 + 1))) := by
            rw [HRel.out]
            exact ⟨c0, c1, c2 + 1, c3, c4, b2'.far (p := ⟨N + 1 + 1, 2, none⟩) (by dsimp only; omega) _, b3'.set_ 2 _, by omega, by omega, by omega, by omega, hb1.setCell (p := ⟨N + 1 + 1, 2, none⟩) (by dsimp only; omega) _, Lib.hid (by rw [hst1.out]; simp [bump, ho])⟩
          go_wp2_with fail
          go_roundw
          case rel => exact ⟨k + 1, by omega, by go_num, hnew⟩
          case measure => simp [intOf]; omega
        · have hnew : Rel (k + 1) (W1.setCell ⟨N + 1 + 1, 3, none⟩ (.int .i64 (c3 + 1))) := by
            rw [HRel.out]
            exact ⟨c0, c1, c2, c3 + 1, c4, b2'.far (p := ⟨N + 1 + 1, 3, none⟩) (by dsimp only; omega) _, b3'.set_ 3 _, by omega, by omega, by omega, by omega, hb1.setCell (p := ⟨N + 1 + 1, 3, none⟩) (by dsimp only; omega) _, Lib.hid (by rw [hst1.out]; simp [bump, ho])⟩
          go_wp2_with fail
          go_roundw
          case rel => exact ⟨k + 1, by omega, by go_num, hnew⟩
          case measure => simp [intOf]; omega
        · have hnew : Rel (k + 1) (W1.setCell ⟨N + 1 + 1, 4, none⟩ (.int .i64 (c4 + 1))) := by
            rw [HRel.out]
            exact ⟨c0, c1, c2, c3, c4 + 1, b2'.far (p := ⟨N + 1 + 1, 4, none⟩) (by dsimp only; omega) _, b3'.set_ 4 _, by omega, by omega, by omega, by omega, hb1.setCell (p := ⟨N + 1 + 1, 4, none⟩) (by dsimp only; omega) _, Lib.hid (by rw [hst1.out]; simp [bump, ho])⟩
          go_wp2_with fail
          go_roundw
          case rel => exact ⟨k + 1, by omega, by go_num, hnew⟩
          case measure => simp [intOf]; omega
      · have hnew : Rel (k + 1) W1 := by
          rw [HRel.out]
          exact ⟨c0, c1, c2, c3, c4, b2', b3', by omega, by omega, by omega, by omega, hb1, Lib.hid (by rw [hst1.out]; unfold bump; rw [if_neg ho])⟩
        by_cases o1 : 1 ≤ a.o
        · have o2 : ¬ a.o ≤ 4 := fun h => ho ⟨o1, h⟩
          go_wp2_with fail
          go_roundw
          case rel => exact ⟨k + 1, by omega, by go_num, hnew⟩
          case measure => simp [intOf]; omega
        · go_wp2_with fail
          go_roundw
          case rel => exact ⟨k + 1, by omega, by go_num, hnew⟩
          case measure => simp [intOf]; omega
    · have hst' : Hid (T = [c0, c1, c2, c3, c4]) := Lib.hid (by rw [hst.out, List.drop_of_length_le (by rw [← HA.out]; omega)]; rfl)
      have hne : ¬ N + 1 = N + 1 + 1 := by omega
      have b7 := ((((b2.set_ 0 (.int .i64 c0)).set_ 1 (.int .i64 c1)).set_ 2 (.int .i64 c2)).set_ 3 (.int .i64 c3)).set_ 4 (.int .i64 c4)
      have x2 := b2.row
      have f2 := b2.frozen
      have x3 := b3.row
      have c7 := b7.row
      unfold Row at x2 x3 c7
      simp only [List.set_cons_zero, List.set_cons_succ] at c7
      have C7 := Lib.hid c7
      clear hst c7 b7
      go_wp2_with fail
      have c7 := C7.out
      refine bodyPost_ret (v := cntV T) (by rw [hst'.out]; simp [cntV, results, Try.results28, go_sem, c7]) rfl ⟨rfl, ?_⟩
      rw [← HN.out]
      exact ((((hb.setCell (p := ⟨N + 1, 0, none⟩) (by dsimp only; omega) _).setCell (p := ⟨N + 1, 1, none⟩) (by dsimp only; omega) _).setCell (p := ⟨N + 1, 2, none⟩) (by dsimp only; omega) _).setCell (p := ⟨N + 1, 3, none⟩) (by dsimp only; omega) _).setCell (p := ⟨N + 1, 4, none⟩) (by dsimp only; omega) _

end Go.Proofs.Ytllakkepphpfmaa
