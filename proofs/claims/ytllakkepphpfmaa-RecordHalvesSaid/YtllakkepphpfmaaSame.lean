/- Walk: Same of package hopmeshref54. -/
import Derived.Test.YtllakkepphpfmaaEqS
namespace Go.Proofs.Ytllakkepphpfmaa
open Go.RowKit
open Rc

theorem take_snoc_ {α : Type} {l : List α} {k : Nat} {a : α} (h : l[k]? = some a) : l.take (k + 1) = l.take k ++ [a] := by
  obtain ⟨hk, e⟩ := List.getElem?_eq_some_iff.1 h
  rw [List.take_succ_eq_append_getElem hk, e]

/-- Two records hold the same. -/
def sameB (r s : Rec) : Bool := r.slots == s.slots && (decide (r.al = s.al) && decide (r.dl = s.dl))

set_option maxRecDepth 100000 in
set_option maxHeartbeats 8000000 in
theorem same_any (r s : Rec) (A D A' D' : Option Addr) (ca cd ca' cd' : Nat) (w : World) (hA : LiesA w w.heap.size A r.al) (hD : LiesD w w.heap.size D r.dl) (hA' : LiesA w w.heap.size A' s.al) (hD' : LiesD w w.heap.size D' s.dl) (hl1 : r.al.length ≤ 1000000) (hl2 : r.dl.length ≤ 1000000) (hl3 : s.al.length ≤ 1000000) (hl4 : s.dl.length ≤ 1000000) :
    Calls Try.prog 13 #[.agg #[.int .i64 r.slots, .slice A r.al.length ca, .slice D r.dl.length cd], .agg #[.int .i64 s.slots, .slice A' s.al.length ca', .slice D' s.dl.length cd']] w fun e w' => e = .returned (.bool (sameB r s)) ∧ Below w.heap.size w w' := by
  obtain ⟨slots, al, dl⟩ := r
  obtain ⟨slots', al', dl'⟩ := s
  dsimp only at *
  obtain ⟨na, hna⟩ : ∃ n, n = al.length := ⟨_, rfl⟩
  obtain ⟨nd, hnd⟩ : ∃ n, n = dl.length := ⟨_, rfl⟩
  obtain ⟨ma, hma⟩ : ∃ n, n = al'.length := ⟨_, rfl⟩
  obtain ⟨md, hmd⟩ : ∃ n, n = dl'.length := ⟨_, rfl⟩
  rw [← hna, ← hnd, ← hma, ← hmd]
  rw [← hna] at hl1
  rw [← hnd] at hl2
  rw [← hma] at hl3
  rw [← hmd] at hl4
  obtain ⟨T, hT⟩ : ∃ T, T = sameB ⟨slots, al, dl⟩ ⟨slots', al', dl'⟩ := ⟨_, rfl⟩
  rw [← hT]
  have HT := Lib.hid hT
  have HNA := Lib.hid hna
  have HND := Lib.hid hnd
  have HMA := Lib.hid hma
  have HMD := Lib.hid hmd
  clear hT hna hnd hma hmd
  have hb0 : ∀ o o', Below w.heap.size w ((w.alloc o).alloc o') := fun o o' => ((Below.refl _ _).alloc (Nat.le_refl _) _).alloc (by simp) _
  by_cases h1 : slots = slots'
  case neg =>
    have hf : Hid (T = false) := Lib.hid (by rw [HT.out]; simp [sameB, h1])
    go_enter Try.func13, Try.ntmps13
    go_wp2_with fail
    go_ret
    exact ⟨ret_bool (by rw [hf.out]), hb0 _ _⟩
  by_cases h2 : na = ma
  case neg =>
    have hf : Hid (T = false) := Lib.hid (by
      rw [HT.out]
      have : ¬ al = al' := fun h => h2 (by rw [HNA.out, HMA.out, h])
      simp [sameB, this])
    have h2' : ¬ (na : Int) = (ma : Int) := by omega
    go_enter Try.func13, Try.ntmps13
    go_wp2_with fail
    go_ret
    exact ⟨ret_bool (by rw [hf.out]), hb0 _ _⟩
  by_cases h3 : nd = md
  case neg =>
    have hf : Hid (T = false) := Lib.hid (by
      rw [HT.out]
      have : ¬ dl = dl' := fun h => h3 (by rw [HND.out, HMD.out, h])
      simp [sameB, this])
    have h3' : ¬ (nd : Int) = (md : Int) := by omega
    go_enter Try.func13, Try.ntmps13
    go_wp2_with fail
    go_ret
    exact ⟨ret_bool (by rw [hf.out]), hb0 _ _⟩
  subst h1 h2 h3
  go_enter Try.func13, Try.ntmps13
  go_upto_block 0 with fail
  generalize hW0 : World.alloc _ _ = W0
  have bR : Blk W0 w.heap.size 28 [.int .i64 slots, .slice A na ca, .slice D nd cd] := by rw [← hW0]; exact (Blk.new' _ [.int .i64 slots, .slice A na ca, .slice D nd cd] rfl).alloc _
  have bS : Blk W0 (w.heap.size + 1) 28 [.int .i64 slots, .slice A' na ca', .slice D' nd cd'] := by rw [← hW0]; exact Blk.new' _ [.int .i64 slots, .slice A' na ca', .slice D' nd cd'] (by simp)
  have hbW : Below w.heap.size w W0 := by rw [← hW0]; exact hb0 _ _
  clear hW0 hb0
  obtain ⟨N, hN⟩ : ∃ N, N = w.heap.size := ⟨_, rfl⟩
  rw [← hN] at bR bS hbW hA hD hA' hD' ⊢
  have HN := Lib.hid hN
  clear hN
  have lA := hA.below hbW
  have lD := hD.below hbW
  have lA' := hA'.below hbW
  have lD' := hD'.below hbW
  have rR := Lib.hid bR.row
  have rS := Lib.hid bS.row
  clear bR bS hA hD hA' hD'
  go_wp2_with fail
  go_loopw [5] (fun i wr => ∃ (k : Nat), k ≤ na ∧ i = .int .i64 k ∧ Below N w wr ∧ Hid (∀ p : Addr, wr.cell? p = W0.cell? p) ∧ Hid (al.take k = al'.take k)) (fun i _ => na - (intOf i).toNat)
  case atStart => exact ⟨0, Nat.zero_le _, rfl, hbW, Lib.hid fun _ => rfl, Lib.hid rfl⟩
  case round =>
    obtain ⟨k, hk, rfl, hb, hw, hst⟩ := hrel
    have xR : ∀ i : Nat, wr.cell? ⟨N, i, none⟩ = [Value.int .i64 slots, .slice A na ca, .slice D nd cd][i]? := fun i => (hw.out _).trans (rR.out i)
    have xS : ∀ i : Nat, wr.cell? ⟨N + 1, i, none⟩ = [Value.int .i64 slots, .slice A' na ca', .slice D' nd cd'][i]? := fun i => (hw.out _).trans (rS.out i)
    by_cases hlt : k < na
    · obtain ⟨a, ha⟩ := get_of_lt (l := al) (k := k) (by rw [← HNA.out]; exact hlt)
      obtain ⟨a', ha'⟩ := get_of_lt (l := al') (k := k) (by rw [← HMA.out]; exact hlt)
      obtain ⟨b, off, rfl, hbB, hcs⟩ := lA.at_ ha
      obtain ⟨b', off', rfl, hbB', hcs'⟩ := lA'.at_ ha'
      obtain ⟨x0, x1, x2, x3, x4, x5, x6, x7⟩ := hcs k a ha
      obtain ⟨y0, y1, y2, y3, y4, y5, y6, y7⟩ := hcs' k a' ha'
      rw [← hw.out] at x0 x1 x2 x3 x4 x5 x6 x7 y0 y1 y2 y3 y4 y5 y6 y7
      have Ha := Lib.hid ha
      have Ha' := Lib.hid ha'
      clear hcs hcs' ha ha'
      go_upto_region 6 with fail
      go_cut [54] (fun s54 W => s54 = .bool (!decide (a = a')) ∧ Below N w W ∧ Hid (∀ p : Addr, W.cell? p = W0.cell? p))
      case first =>
        refine wp_region_quiet_lit (by kernel_rfl) (by kernel_rfl) ?_
        repeat (go_big_quiet_step (fail))
        go_big_quiet_want
        refine quiet_neq _ _ _ _ _ _ _ rfl rfl rfl (by kernel_rfl) (Try.eqAtt a a') ?_
        go_big_quiet_on
        refine wpQuiet_nil ?_
        intro _ hw'
        obtain ⟨nq, hw''⟩ := hw'
        subst hw''
        go_wp2_with fail
        go_meet
        exact ⟨rfl, below_drewN hb _, Lib.hid fun p => hw.out p⟩
      case rest =>
        obtain ⟨rfl, hb2, hw2⟩ := hcut
        by_cases haa : a = a'
        · have hs2 : Hid (al.take (k + 1) = al'.take (k + 1)) := Lib.hid (by rw [take_snoc_ Ha.out, take_snoc_ Ha'.out, hst.out, haa])
          have hd : decide (a = a') = true := by simp [haa]
          rw [hd]
          clear hd haa
          go_wp2_with fail
          go_roundw
          case rel => exact ⟨k + 1, by omega, by go_num, hb2, hw2, hs2⟩
          case measure => simp [intOf]; omega
        · have hf : Hid (T = false) := Lib.hid (by
            rw [HT.out]
            have : ¬ al = al' := fun h => haa (by have h1 := Ha.out; rw [h, Ha'.out] at h1; injection h1 with h1; exact h1.symm)
            simp [sameB, this])
          have hd : decide (a = a') = false := by simp [haa]
          rw [hd]
          clear hd haa
          go_wp2_with fail
          go_ret
          exact ⟨ret_bool (by rw [hf.out]), by rw [← HN.out]; exact hb2⟩
    · have hal : Hid (al = al') := Lib.hid (by
        have h := hst.out
        rwa [List.take_of_length_le (by rw [← HNA.out]; omega), List.take_of_length_le (by rw [← HMA.out]; omega)] at h)
      go_wp2_with fail
      obtain ⟨W2, hW2⟩ : ∃ W2 : World, W2 = wr := ⟨_, rfl⟩
      subst hW2
      clear xR xS
      go_loopw [6] (fun i wr => ∃ (k : Nat), k ≤ nd ∧ i = .int .i64 k ∧ Below N w wr ∧ Hid (∀ p : Addr, wr.cell? p = W0.cell? p) ∧ Hid (dl.take k = dl'.take k)) (fun i _ => nd - (intOf i).toNat)
      case atStart => exact ⟨0, Nat.zero_le _, rfl, hb, hw, Lib.hid rfl⟩
      case round =>
        clear hb hw hst
        obtain ⟨k, hk, rfl, hb, hw, hst⟩ := hrel
        have xR : ∀ i : Nat, wr.cell? ⟨N, i, none⟩ = [Value.int .i64 slots, .slice A na ca, .slice D nd cd][i]? := fun i => (hw.out _).trans (rR.out i)
        have xS : ∀ i : Nat, wr.cell? ⟨N + 1, i, none⟩ = [Value.int .i64 slots, .slice A' na ca', .slice D' nd cd'][i]? := fun i => (hw.out _).trans (rS.out i)
        by_cases hlt : k < nd
        · obtain ⟨a, ha⟩ := get_of_lt (l := dl) (k := k) (by rw [← HND.out]; exact hlt)
          obtain ⟨a', ha'⟩ := get_of_lt (l := dl') (k := k) (by rw [← HMD.out]; exact hlt)
          obtain ⟨b, off, rfl, hbB, hcs⟩ := lD.at_ ha
          obtain ⟨b', off', rfl, hbB', hcs'⟩ := lD'.at_ ha'
          obtain ⟨x0, x1, x2⟩ := hcs k a ha
          obtain ⟨y0, y1, y2⟩ := hcs' k a' ha'
          rw [← hw.out] at x0 x1 x2 y0 y1 y2
          have Ha := Lib.hid ha
          have Ha' := Lib.hid ha'
          clear hcs hcs' ha ha'
          go_upto_region 11 with fail
          go_cut [75] (fun s75 W => s75 = .bool (!decide (a = a')) ∧ Below N w W ∧ Hid (∀ p : Addr, W.cell? p = W0.cell? p))
          case first =>
            refine wp_region_quiet_lit (by kernel_rfl) (by kernel_rfl) ?_
            repeat (go_big_quiet_step (fail))
            go_big_quiet_want
            refine quiet_neq _ _ _ _ _ _ _ rfl rfl rfl (by kernel_rfl) (Try.eqDlv a a') ?_
            go_big_quiet_on
            refine wpQuiet_nil ?_
            intro _ hw'
            obtain ⟨nq, hw''⟩ := hw'
            subst hw''
            go_wp2_with fail
            go_meet
            exact ⟨rfl, below_drewN hb _, Lib.hid fun p => hw.out p⟩
          case rest =>
            obtain ⟨rfl, hb2, hw2⟩ := hcut
            by_cases haa : a = a'
            · have hs2 : Hid (dl.take (k + 1) = dl'.take (k + 1)) := Lib.hid (by rw [take_snoc_ Ha.out, take_snoc_ Ha'.out, hst.out, haa])
              have hd : decide (a = a') = true := by simp [haa]
              rw [hd]
              clear hd haa
              go_wp2_with fail
              go_roundw
              case rel => exact ⟨k + 1, by omega, by go_num, hb2, hw2, hs2⟩
              case measure => simp [intOf]; omega
            · have hf : Hid (T = false) := Lib.hid (by
                rw [HT.out]
                have : ¬ dl = dl' := fun h => haa (by have h1 := Ha.out; rw [h, Ha'.out] at h1; injection h1 with h1; exact h1.symm)
                simp [sameB, this])
              have hd : decide (a = a') = false := by simp [haa]
              rw [hd]
              clear hd haa
              go_wp2_with fail
              go_ret
              exact ⟨ret_bool (by rw [hf.out]), by rw [← HN.out]; exact hb2⟩
        · have hdl : Hid (dl = dl') := Lib.hid (by
            have h := hst.out
            rwa [List.take_of_length_le (by rw [← HND.out]; omega), List.take_of_length_le (by rw [← HMD.out]; omega)] at h)
          have hf : Hid (T = true) := Lib.hid (by rw [HT.out, hal.out, hdl.out]; simp [sameB])
          go_wp2_with fail
          go_ret
          exact ⟨ret_bool (by rw [hf.out]), by rw [← HN.out]; exact hb⟩

end Go.Proofs.Ytllakkepphpfmaa
