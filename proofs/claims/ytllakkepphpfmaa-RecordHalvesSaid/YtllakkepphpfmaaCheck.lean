/- Walk: Check of package record. -/
import Derived.Test.YtllakkepphpfmaaAtts
namespace Go.Proofs.Ytllakkepphpfmaa
open Go.RowKit
open Rc

/-- A record by value: its number of slots, and two slices. -/
def recV (r : Rec) (A D : Option Addr) (ca cd : Nat) : Value := .agg #[.int .i64 r.slots, .slice A r.al.length ca, .slice D r.dl.length cd]

theorem check_short {r : Rec} (h : ¬ (0 ≤ r.slots ∧ r.slots ≤ 4096 ∧ r.al.length ≤ 65536 ∧ r.dl.length ≤ 65536 ∧ attsB r.al r.slots = true)) : checkE r = 1 := by
  unfold checkE
  rw [if_neg]
  intro hg
  simp [good] at hg
  exact h ⟨hg.1, hg.2.1, hg.2.2.1, hg.2.2.2.1, hg.2.2.2.2.1⟩
theorem check_long {r : Rec} (h0 : 0 ≤ r.slots) (h1 : r.slots ≤ 4096) (h2 : r.al.length ≤ 65536) (h3 : r.dl.length ≤ 65536) (h4 : attsB r.al r.slots = true) : checkE r = if dlvsB r.dl r.slots then 0 else 1 := by
  unfold checkE
  congr 1
  simp [good, h0, h1, h2, h3, h4]

set_option maxRecDepth 100000 in
set_option maxHeartbeats 2000000 in
theorem check_any (r : Rec) (A D : Option Addr) (ca cd : Nat) (w : World) (hA : LiesA w w.heap.size A r.al) (hD : LiesD w w.heap.size D r.dl) (hla : r.al.length ≤ 9223372036854775807) (hld : r.dl.length ≤ 9223372036854775807) :
    Calls Try.prog 18 #[.agg #[.int .i64 r.slots, .slice A r.al.length ca, .slice D r.dl.length cd]] w fun e w' => e = .returned (.int .i64 (checkE r)) ∧ Below w.heap.size w w' := by
  obtain ⟨slots, al, dl⟩ := r
  dsimp only at *
  have hshort := @check_short ⟨slots, al, dl⟩
  have hlong := @check_long ⟨slots, al, dl⟩
  dsimp only at hshort hlong
  have hnA : ∃ n, n = al.length := ⟨_, rfl⟩
  obtain ⟨na, hna⟩ := hnA
  have hnD : ∃ n, n = dl.length := ⟨_, rfl⟩
  obtain ⟨nd, hnd⟩ := hnD
  rw [← hna, ← hnd] at hshort hlong ⊢
  rw [← hna] at hla
  rw [← hnd] at hld
  have HA := Lib.hid hna
  have HD := Lib.hid hnd
  clear hna hnd
  by_cases h0 : slots < 0
  · have hfin := Lib.hid (hshort (by omega))
    clear hshort hlong
    go_enter Try.func18, Try.ntmps18
    go_wp2
    go_ret
    exact ⟨ret_int (by rw [hfin.out]), ((Below.refl _ _).alloc (Nat.le_refl _) _).alloc (by simp) _⟩
  by_cases h1 : 4096 < slots
  · have hfin := Lib.hid (hshort (by omega))
    clear hshort hlong
    go_enter Try.func18, Try.ntmps18
    go_wp2
    go_ret
    exact ⟨ret_int (by rw [hfin.out]), ((Below.refl _ _).alloc (Nat.le_refl _) _).alloc (by simp) _⟩
  by_cases h2 : 65536 < na
  · have hfin := Lib.hid (hshort (by omega))
    clear hshort hlong
    go_enter Try.func18, Try.ntmps18
    go_wp2
    go_ret
    exact ⟨ret_int (by rw [hfin.out]), ((Below.refl _ _).alloc (Nat.le_refl _) _).alloc (by simp) _⟩
  by_cases h3 : 65536 < nd
  · have hfin := Lib.hid (hshort (by omega))
    clear hshort hlong
    go_enter Try.func18, Try.ntmps18
    go_wp2
    go_ret
    exact ⟨ret_int (by rw [hfin.out]), ((Below.refl _ _).alloc (Nat.le_refl _) _).alloc (by simp) _⟩
  have con : ∀ W, Below w.heap.size w W → Calls Try.prog 44 #[.slice A na ca, .int .i64 slots] W fun e w' => e = .returned (.bool (attsB al slots)) ∧ Below W.heap.size W w' := fun W hW => by
    have := attempts_any al A ca slots W (by rw [← HA.out]; omega) ((hA.below hW).more hW.size)
    rwa [← HA.out] at this
  cases hat : attsB al slots with
  | false =>
    rw [hat] at con
    have Con := Lib.hid con
    have hfin := Lib.hid (hshort (by simp [hat]))
    clear hshort hlong con
    go_enter Try.func18, Try.ntmps18
    go_wp2_with (go_at_call 44; refine (Con.out _ (((Below.refl _ _).alloc (Nat.le_refl _) _).alloc (by simp) _)).mono ?_; rintro e w1 ⟨rfl, hb1⟩)
    go_ret
    exact ⟨ret_int (by rw [hfin.out]), (((Below.refl _ _).alloc (Nat.le_refl _) _).alloc (by simp) _).trans (hb1.mono (by simp; omega))⟩
  | true =>
    rw [hat] at con
    have Con := Lib.hid con
    have hfin := Lib.hid (hlong (by omega) (by omega) (by omega) (by omega) hat)
    clear hshort hlong con hat
    go_enter Try.func18, Try.ntmps18
    go_wp2_with fail
    refine (Con.out _ (((Below.refl _ _).alloc (Nat.le_refl _) _).alloc (by simp) _)).mono ?_
    rintro e w1 ⟨rfl, hb1⟩
    have row1 : Row w1 w.heap.size [.int .i64 slots, .slice A na ca, .slice D nd cd] := (Row.alloc (Row.new w _ _) (by simp) _).below hb1 (by simp; omega)
    have row3 : Row w1 (w.heap.size + 1) [.slice A na ca, .slice D nd cd] := (Row.new' _ _ (by simp)).below hb1 (by simp)
    have hbw : Below w.heap.size w w1 := (((Below.refl _ _).alloc (Nat.le_refl _) _).alloc (by simp) _).trans (hb1.mono (by simp; omega))
    have hz : w.heap.size + 1 < w1.heap.size := by have := hb1.size; simp at this; omega
    clear hb1
    have R1 := Lib.hid row1
    have R3 := Lib.hid row3
    unfold Row at row1 row3
    go_wp2_with fail
    go_loopw [2, 39] (fun s2 i wr => ∃ (k : Nat), k ≤ nd ∧ i = .int .i64 k ∧ s2 = .int .i64 0 ∧ Below w1.heap.size w1 wr ∧
      Hid (dlvsB dl slots = dlvsGo slots (if k = 0 then none else dl[k - 1]?) (dl.drop k))) (fun _ i _ => nd - (intOf i).toNat)
    case atStart => exact ⟨0, Nat.zero_le _, rfl, rfl, Below.refl _ _, Lib.hid rfl⟩
    case round =>
      obtain ⟨k, hk, rfl, rfl, hb, hst⟩ := hrel
      clear row1 row3
      have row1 := R1.out.below hb (by omega)
      have row3 := R3.out.below hb (by omega)
      have hb0 : Below w.heap.size w wr := hbw.trans (hb.mono hbw.size)
      unfold Row at row1 row3
      by_cases hlt : k < nd
      · obtain ⟨a, ha⟩ := get_of_lt (l := dl) (k := k) (by rw [← HD.out]; exact hlt)
        obtain ⟨b, off, rfl, hbB, hcs⟩ := (hD.below hb0).at_ ha
        obtain ⟨c0, c1, c2⟩ := hcs k a ha
        have hd := Lib.hid (drop_of_get ha)
        have Hcs := Lib.hid hcs
        have Ha := Lib.hid ha
        clear hcs ha
        have hst' := hst.out
        rw [hd.out] at hst'
        simp only [dlvsGo] at hst'
        have Hst := Lib.hid hst'
        clear hst'
        go_upto_region 7 with fail
        generalize hW1 : wr.alloc _ = W1
        have hb1 : Below w1.heap.size w1 W1 := by rw [← hW1]; exact hb.alloc hb.size _
        have hz1 : wr.heap.size < W1.heap.size := by rw [← hW1]; simp
        have row5 : Row W1 wr.heap.size [.int .i64 a.fl, .int .i64 a.fr, .int .i64 a.sl] := by rw [← hW1]; exact Row.new wr _ _
        have hkeep : ∀ p : Addr, p.block < w1.heap.size → W1.cell? p = wr.cell? p := fun p hp => by rw [← hW1]; exact World.cell?_alloc_lt wr _ p (Nat.lt_of_lt_of_le hp hb.size)
        have HK := Lib.hid hkeep
        have hzr := hb.size
        clear hkeep c0 c1 c2 hW1 row1 row3
        have row1 := R1.out.below hb1 (by omega)
        have row3 := R3.out.below hb1 (by omega)
        have R5 := Lib.hid row5
        unfold Row at row1 row3 row5
        go_cut [61] (fun s61 W => s61 = .bool (!dlvB a slots) ∧ W = W1)
        case first =>
          go_wp2_with (go_at_call 45; refine (below_any _ _ _).mono ?_; rintro e w' ⟨rfl, rfl⟩)
          all_goals
            go_meet
            exact ⟨by simp [dlvB, *], rfl⟩
        case rest =>
          obtain ⟨rfl, hwc⟩ := hcut
          subst wc
          cases hdl : dlvB a slots with
          | false =>
            have hst' := Hst.out
            rw [hdl] at hst'
            have hf2 := Lib.hid hst'
            clear hst'
            go_wp2
            go_ret
            exact ⟨ret_int (by rw [hfin.out, hf2.out]; rfl), hbw.trans (hb1.mono hbw.size)⟩
          | true =>
            have hst' := Hst.out
            rw [hdl] at hst'
            simp only [Bool.true_eq_false, if_false] at hst'
            have hf2 := Lib.hid hst'
            clear hst'
            go_upto_region 9 with fail
            go_cut [88] (fun s88 W => s88 = .bool (prevBadD (if k = 0 then none else dl[k - 1]?) a) ∧ Below W1.heap.size W1 W)
            case first =>
              have x1 := R1.out.below hb1 (by omega)
              have x3 := R3.out.below hb1 (by omega)
              have x1' := x1.ext (B := W1.heap.size) (by have := hb1.size; omega)
              have x3' := x3.ext (B := W1.heap.size) (by have := hb1.size; omega)
              have x5' := R5.out.ext (B := W1.heap.size) hz1
              by_cases hk0 : k = 0
              · subst hk0
                have hd0 : decide ((0 : Int) < ((0 : Nat) : Int)) = false := rfl
                refine wp_region_ext W1.heap.size (by kernel_rfl) (by kernel_rfl) ?_
                repeat (go_big_quiet_step (fail))
                refine wpQuiet_nil ?_
                rintro _ ⟨x, rfl⟩
                go_wp2_with fail
                go_meet
                exact ⟨rfl, x.below⟩
              · obtain ⟨j, rfl⟩ : ∃ j, k = j + 1 := ⟨k - 1, by omega⟩
                obtain ⟨p, hp⟩ := get_of_lt (l := dl) (k := j) (by rw [← HD.out]; omega)
                have hcp := Hcs.out j p hp
                have hx : ∀ (x : ExtW W1.heap.size W1) (j : Nat), x.val.cell? ⟨b, j, none⟩ = wr.cell? ⟨b, j, none⟩ := fun x j => (x.cell _ (Nat.lt_of_lt_of_le (Nat.lt_of_lt_of_le hbB hbw.size) hb1.size)).trans (HK.out _ (Nat.lt_of_lt_of_le hbB hbw.size))
                obtain ⟨p0, p1, p2⟩ := hcp
                have hki : decide ((0 : Int) < ((j + 1 : Nat) : Int)) = true := by simp
                have hw1 : IntKind.i64.wrap (((j + 1 : Nat) : Int) - 1) = (j : Int) := by rw [IntWalk.i64_in _ (by omega)]; omega
                have hjn : (j : Int) < (nd : Int) := by omega
                have HP := Lib.hid hp
                clear hp
                refine wp_region_ext_tail W1.heap.size 23 (by kernel_rfl) (by kernel_rfl) ?_
                simp only [List.take_succ_cons, List.take_zero, List.drop_succ_cons, List.drop_zero]
                repeat (go_big_quiet_step ((go_at_call 47; exact Calls.ext_same (cmp_any _ _ _))))
                refine wpQuiet_nil ?_
                rintro _ ⟨x, rfl⟩
                go_wp2_with (go_at_call 46; refine (or_any [cmpI p.sl a.sl, cmpI p.fl a.fl] _ 0 2 _ (by simp) (Row.ints (l := [cmpI p.sl a.sl, cmpI p.fl a.fl]) (Row.new _ [.int .i64 (cmpI p.sl a.sl), .int .i64 (cmpI p.fl a.fl)] _))).mono ?_; rintro e w' ⟨rfl, rfl⟩)
                go_meet
                exact ⟨by congr 1; rw [Bool.eq_iff_iff]; simp [prevBadD, HP.out, cmpD]; exact Iff.intro (fun h => decide_eq_true h) of_decide_eq_true, x.below.alloc x.below.size _⟩
            case rest =>
              obtain ⟨rfl, hb2⟩ := hcut
              have hb3 : Below w1.heap.size w1 wc := hb1.trans (hb2.mono hb1.size)
              cases hpv : prevBadD (if k = 0 then none else dl[k - 1]?) a with
              | true =>
                have hst' := hf2.out
                rw [hpv] at hst'
                have hf3 := Lib.hid hst'
                clear hst'
                go_wp2
                go_ret
                exact ⟨ret_int (by rw [hfin.out, hf3.out]; rfl), hbw.trans (hb3.mono hbw.size)⟩
              | false =>
                have hst' := hf2.out
                rw [hpv] at hst'
                simp only [Bool.false_eq_true, if_false] at hst'
                have hf3 := Lib.hid hst'
                clear hst'
                go_wp2
                go_roundw
                case rel => exact ⟨k + 1, by omega, by go_num, rfl, hb3, Lib.hid (by rw [hf3.out, if_neg (by omega), show k + 1 - 1 = k from rfl, Ha.out])⟩
                case measure => simp [intOf]; omega
      · have hfin2 := Lib.hid hfin.out
        go_wp2
        go_ret
        exact ⟨ret_int (by rw [hfin2.out, hst.out, List.drop_of_length_le (by rw [← HD.out]; omega)]; simp [dlvsGo]), hb0⟩

end Go.Proofs.Ytllakkepphpfmaa
