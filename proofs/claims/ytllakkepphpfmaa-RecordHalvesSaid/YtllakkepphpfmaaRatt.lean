/- Walk: Attempts of the reference. -/
import Derived.Test.YtllakkepphpfmaaCut
namespace Go.Proofs.Ytllakkepphpfmaa
open Go.RowKit
open Rc

set_option maxRecDepth 100000 in
set_option maxHeartbeats 8000000 in
theorem rattempts_any (r : Rec) (A D : Option Addr) (ca cd : Nat) (flow frame : Int) (w : World) (hA : LiesA w w.heap.size A r.al) (hla : r.al.length ≤ 1000000) :
    Calls Try.prog 25 #[.agg #[.int .i64 r.slots, .slice A r.al.length ca, .slice D r.dl.length cd], .int .i64 flow, .int .i64 frame] w fun e w' => Below w.heap.size w w' ∧ ∃ va, e = .returned va ∧ w'.ownsRow w.heap.size 45 8 va (ofFrame r.al flow frame).length (flatA (ofFrame r.al flow frame)) := by
  obtain ⟨slots, al, dl⟩ := r
  dsimp only at *
  obtain ⟨na, hna⟩ : ∃ n, n = al.length := ⟨_, rfl⟩
  obtain ⟨nd, hnd⟩ : ∃ n, n = dl.length := ⟨_, rfl⟩
  rw [← hna, ← hnd]
  rw [← hna] at hla
  have HA := Lib.hid hna
  clear hna hnd
  obtain ⟨F, hF⟩ : ∃ F, F = ofFrame al flow frame := ⟨_, rfl⟩
  rw [← hF]
  have HF := Lib.hid hF
  clear hF
  obtain ⟨i0, hi, hz0, hz1, hz2⟩ := info_parts Try.infoAtt
  go_enter Try.func25, Try.ntmps25
  go_wp2_with fail
  generalize hW0 : World.alloc _ _ = W0
  have bR : Blk W0 w.heap.size 28 [.int .i64 slots, .slice A na ca, .slice D nd cd] := by rw [← hW0]; exact Blk.new' _ [.int .i64 slots, .slice A na ca, .slice D nd cd] rfl
  have hb0 : Below w.heap.size w W0 := by rw [← hW0]; exact (Below.refl _ _).alloc (Nat.le_refl _) _
  clear hW0
  obtain ⟨N, hN⟩ : ∃ N, N = w.heap.size := ⟨_, rfl⟩
  rw [← hN] at bR hb0 ⊢
  have hA' : LiesA w N A al := by rw [hN]; exact hA
  have HN := Lib.hid hN
  clear hN hA
  go_loopw [7, 8] (fun s7 i wr => ∃ (k : Nat) (acc : List Att) (va : Value), va = s7 ∧ Blk wr N 28 [.int .i64 slots, .slice A na ca, .slice D nd cd] ∧ k ≤ na ∧ i = .int .i64 k ∧ acc.length ≤ k ∧ wr.ownsRow (N + 1) 45 8 va acc.length (flatA acc) ∧ Below N w wr ∧ N + 1 ≤ wr.heap.size ∧ Hid (F = acc ++ ofFrame (al.drop k) flow frame)) (fun _ i _ => na - (intOf i).toNat)
  case atStart => exact ⟨0, [], _, rfl, bR, Nat.zero_le _, rfl, Nat.le_refl _, World.ownsRow_nil _ _ _ _, hb0, bR.lt, Lib.hid (by rw [HF.out]; simp)⟩
  case round =>
    obtain ⟨k, acc, va, rfl, bR2, hk, rfl, hal, hown, hb, hMw, hst⟩ := hrel
    have cR := bR2.row
    unfold Row at cR
    by_cases hlt : k < na
    · obtain ⟨a, ha⟩ := get_of_lt (l := al) (k := k) (by rw [← HA.out]; exact hlt)
      obtain ⟨b, off, rfl, hbB, hcs⟩ := (hA'.below hb).at_ ha
      obtain ⟨c0, c1, c2, c3, c4, c5, c6, c7⟩ := hcs k a ha
      have hd := Lib.hid (drop_of_get ha)
      have hvl : ∀ g, va.ownBlock = some g → N + 1 ≤ g ∧ g < wr.heap.size := hown.lt
      have HV := Lib.hid hvl
      clear hcs ha hvl
      go_upto_region 6 with fail
      generalize hW1 : wr.alloc _ = W1
      have ba : Blk W1 wr.heap.size 45 [.int .i64 a.s, .int .i64 a.f, .int .i64 a.cs, .int .i64 a.co, .int .i64 a.cf, .int .i64 a.ct, .int .i64 a.cl, .int .i64 a.o] := by rw [← hW1]; exact Blk.new' _ [.int .i64 a.s, .int .i64 a.f, .int .i64 a.cs, .int .i64 a.co, .int .i64 a.cf, .int .i64 a.ct, .int .i64 a.cl, .int .i64 a.o] rfl
      have hb1 : Below N w W1 := by rw [← hW1]; exact hb.alloc (by omega) _
      have hsz : wr.heap.size + 1 ≤ W1.heap.size := by rw [← hW1]; simp
      have hown1 : W1.ownsRow (N + 1) 45 8 va acc.length (flatA acc) := by rw [← hW1]; exact hown.alloc _
      have bR3 : Blk W1 N 28 [.int .i64 slots, .slice (some ⟨b, off, none⟩) na ca, .slice D nd cd] := by rw [← hW1]; exact bR2.alloc _
      have ca' := ba.row
      unfold Row at ca'
      clear cR bR2 hW1 c0 c1 c2 c3 c4 c5 c6 c7 hown
      by_cases hm : a.cl = flow ∧ a.f = frame
      · obtain ⟨h1, h2⟩ := hm
        have e1 : (a.cl == flow) = true := by simp [h1]
        have e2 : (a.f == frame) = true := by simp [h2]
        have hst' : Hid (F = (acc ++ [a]) ++ ofFrame (al.drop (k + 1)) flow frame) := Lib.hid (by rw [hst.out, hd.out]; simp [ofFrame, h1, h2])
        have HO := Lib.hid hown1
        clear hown1 hst h1 h2
        go_wp2_with (at_builtin; refine wpList_append_own_at _ rfl (.tmp 35) (.tmp 37) 23 rfl (N + 1) 45 i0 (.agg #[.int .i64 0, .int .i64 0, .int .i64 0, .int .i64 0, .int .i64 0, .int .i64 0, .int .i64 0, .int .i64 0]) 8 64 Try.underlying23 hi hz0 hz1 hz2 rfl (by decide) va acc.length (flatA acc) rfl (HO.out.alloc _) ⟨W1.heap.size, 0, none⟩ 1 1 [.int .i64 a.s, .int .i64 a.f, .int .i64 a.cs, .int .i64 a.co, .int .i64 a.cf, .int .i64 a.ct, .int .i64 a.cl, .int .i64 a.o] rfl rfl ?e0 ?e1 ?e2 ?e3 ?e4 ?_)
        case e0 => exact (Blk.new' 45 [.int .i64 a.s, .int .i64 a.f, .int .i64 a.cs, .int .i64 a.co, .int .i64 a.cf, .int .i64 a.ct, .int .i64 a.cl, .int .i64 a.o] rfl).news
        case e1 => exact ints_one (l := [a.s, a.f, a.cs, a.co, a.cf, a.ct, a.cl, a.o])
        case e2 => unfold maxLen; omega
        case e3 => omega
        case e4 => simp; omega
        intro v3 w3 ho3 hg3 hnil3 hat3
        clear hnil3 hat3
        have hb3 : Below N w w3 := (hb1.alloc (by omega) _).grown hg3 (by simp; omega) (by intro g hg; have := HV.out g hg; omega)
        have hz3 : N + 1 ≤ w3.heap.size := by have := hg3.size; simp at this; omega
        have bR4 : Blk w3 N 28 [.int .i64 slots, .slice (some ⟨b, off, none⟩) na ca, .slice D nd cd] := (bR3.alloc _).grown_ hg3 (by intro e; have := HV.out _ e.symm; omega)
        have O3 : w3.ownsRow (N + 1) 45 8 v3 (acc ++ [a]).length (flatA (acc ++ [a])) := by simpa [flatA, Att.row] using ho3
        obtain ⟨A3, c3, hv3⟩ := own_form ho3
        clear ho3 hg3 HO
        subst hv3
        go_wp2_with fail
        go_roundw
        case rel => exact ⟨k + 1, acc ++ [a], _, rfl, bR4, by omega, by go_num, by simp; omega, O3, hb3, hz3, hst'⟩
        case measure => simp [intOf]; omega
      · have hst' : Hid (F = acc ++ ofFrame (al.drop (k + 1)) flow frame) := Lib.hid (by
          rw [hst.out, hd.out]
          have : (a.cl == flow && a.f == frame) = false := by
            rw [Bool.eq_false_iff]
            intro h
            simp at h
            exact hm h
          simp only [ofFrame, List.filter_cons, this, Bool.false_eq_true, if_false])
        clear hst
        by_cases h1 : a.cl = flow
        · have h2 : ¬ a.f = frame := fun h => hm ⟨h1, h⟩
          have e1 : (a.cl == flow) = true := by simp [h1]
          have e2 : (a.f == frame) = false := by simp [h2]
          go_wp2_with fail
          go_roundw
          case rel => exact ⟨k + 1, acc, _, rfl, bR3, by omega, by go_num, by omega, hown1, hb1, by omega, hst'⟩
          case measure => simp [intOf]; omega
        · have e1 : (a.cl == flow) = false := by simp [h1]
          go_wp2_with fail
          go_roundw
          case rel => exact ⟨k + 1, acc, _, rfl, bR3, by omega, by go_num, by omega, hown1, hb1, by omega, hst'⟩
          case measure => simp [intOf]; omega
    · have hst' : Hid (F = acc) := Lib.hid (by rw [hst.out, List.drop_of_length_le (by rw [← HA.out]; omega)]; simp [ofFrame])
      obtain ⟨A3, c3, hv3⟩ := own_form hown
      have HO := Lib.hid hown
      clear hst hown
      subst hv3
      go_wp2_with fail
      go_ret
      exact ⟨by rw [← HN.out]; exact hb, _, rfl, by rw [hst'.out, ← HN.out]; exact own_weak HO.out (by omega)⟩

end Go.Proofs.Ytllakkepphpfmaa
