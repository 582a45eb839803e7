import Derived.Lib.ItoaLen
import Derived.Lib.Join
import Derived.Laws.EntriesVeiled
import Derived.Deep.CutBlock
import Derived.Laws.OwnMore
import Derived.Laws.CopyRow
import Derived.Laws.BytesArg
import Derived.WalkKit
import Derived.ProofKit
import Derived.OpenShut
import Derived.Carry
import Derived.ChangeSame
import Derived.Deep.Slices
import Derived.LaidMore
import Derived.Stop.Joined
import Derived.Below
import Derived.Stop.LaidErr
import Derived.Test.YticnppnejafhdaaGreatDoorZ2
import Derived.Test.YticnppnejafhdaaGreatDoorRows
set_option linter.unusedVariables false
set_option linter.unusedSimpArgs false
/- Walk: Check of the reference. -/
namespace Go.Proofs.YticnppnejafhdaaGreatDoor
open Go.RowKit
open Rc

theorem rcheck_short {r : Rec} (h : ¬ (0 ≤ r.slots ∧ r.slots ≤ 4096 ∧ r.al.length ≤ 65536 ∧ r.dl.length ≤ 65536)) : rcheckE r = 1 := by
  unfold rcheckE
  rw [if_neg]
  intro hg
  simp [goodR, inB] at hg
  exact h ⟨hg.1.1, hg.1.2, hg.2.1, hg.2.2.1⟩
theorem rcheck_long {r : Rec} (h0 : 0 ≤ r.slots) (h1 : r.slots ≤ 4096) (h2 : r.al.length ≤ 65536) (h3 : r.dl.length ≤ 65536) : rcheckE r = if attsRGo r.slots [] r.al && dlvsRGo r.slots none r.dl then 0 else 1 := by
  unfold rcheckE
  congr 1
  simp [goodR, inB, h0, h1, h2, h3]

theorem revTake_succ {α : Type} {l : List α} {j : Nat} {p : α} (h : l[j]? = some p) : (l.take (j + 1)).reverse = p :: (l.take j).reverse := by
  have hj : j < l.length := (List.getElem?_eq_some_iff.1 h).1
  rw [List.take_succ_eq_append_getElem hj, (List.getElem?_eq_some_iff.1 h).2]
  simp

set_option maxRecDepth 100000 in
set_option maxHeartbeats 4000000 in
theorem rcheck_any (r : Rec) (A D : Option Addr) (ca cd : Nat) (w : World) (hA : LiesA w w.heap.size A r.al) (hD : LiesD w w.heap.size D r.dl) (hla : r.al.length ≤ 9223372036854775807) (hld : r.dl.length ≤ 9223372036854775807) :
    Calls Tryz.prog 84 #[.agg #[.int .i64 r.slots, .slice A r.al.length ca, .slice D r.dl.length cd]] w fun e w' => e = .returned (.int .i64 (rcheckE r)) ∧ Below w.heap.size w w' := by
  obtain ⟨slots, al, dl⟩ := r
  dsimp only at *
  have hshort := @rcheck_short ⟨slots, al, dl⟩
  have hlong := @rcheck_long ⟨slots, al, dl⟩
  dsimp only at hshort hlong
  obtain ⟨na, hna⟩ : ∃ n, n = al.length := ⟨_, rfl⟩
  obtain ⟨nd, hnd⟩ : ∃ n, n = dl.length := ⟨_, rfl⟩
  rw [← hna, ← hnd] at hshort hlong ⊢
  rw [← hna] at hla
  rw [← hnd] at hld
  have HA := Lib.hid hna
  have HD := Lib.hid hnd
  clear hna hnd
  by_cases hbad : ¬ (0 ≤ slots ∧ slots ≤ 4096 ∧ na ≤ 65536 ∧ nd ≤ 65536)
  · have hfin := Lib.hid (hshort hbad)
    clear hshort hlong
    have hin : inB slots 0 4096 = decide (0 ≤ slots ∧ slots ≤ 4096) := by unfold inB; rw [Bool.decide_and]
    have con := fun W => in_any slots 0 4096 W
    by_cases hs : 0 ≤ slots ∧ slots ≤ 4096
    · have hin2 : inB slots 0 4096 = true := by rw [hin]; simp [hs]
      rw [hin2] at con
      have Con := Lib.hid con
      clear hin hin2 con
      by_cases h2 : 65536 < na
      · go_enter Tryz.func84, Tryz.ntmps84
        go_wp2_with (go_at_call 117; refine (Con.out _).mono ?_; rintro e w' ⟨rfl, rfl⟩)
        go_ret
        exact ⟨ret_int (by rw [hfin.out]), (Below.refl _ _).alloc (Nat.le_refl _) _⟩
      · have h3 : 65536 < nd := by omega
        go_enter Tryz.func84, Tryz.ntmps84
        go_wp2_with (go_at_call 117; refine (Con.out _).mono ?_; rintro e w' ⟨rfl, rfl⟩)
        go_ret
        exact ⟨ret_int (by rw [hfin.out]), (Below.refl _ _).alloc (Nat.le_refl _) _⟩
    · have hin2 : inB slots 0 4096 = false := by rw [hin]; simpa using hs
      rw [hin2] at con
      have Con := Lib.hid con
      clear hin hin2 con
      go_enter Tryz.func84, Tryz.ntmps84
      go_wp2_with (go_at_call 117; refine (Con.out _).mono ?_; rintro e w' ⟨rfl, rfl⟩)
      go_ret
      exact ⟨ret_int (by rw [hfin.out]), (Below.refl _ _).alloc (Nat.le_refl _) _⟩
  obtain ⟨h0, h1, h2, h3⟩ : 0 ≤ slots ∧ slots ≤ 4096 ∧ na ≤ 65536 ∧ nd ≤ 65536 := by omega
  have hfin := Lib.hid (hlong h0 h1 h2 h3)
  clear hshort hlong hbad
  have con : ∀ W, Calls Tryz.prog 117 #[.int .i64 slots, .int .i64 0, .int .i64 4096] W fun e w' => e = .returned (.bool true) ∧ W = w' := fun W => by
    have := in_any slots 0 4096 W
    rwa [show inB slots 0 4096 = true by simp [inB, h0, h1]] at this
  have Con := Lib.hid con
  clear con
  go_enter Tryz.func84, Tryz.ntmps84
  go_wp2_with (go_at_call 117; refine (Con.out _).mono ?_; rintro e w' ⟨rfl, rfl⟩)
  generalize hw1 : w.alloc _ = w1
  have row1 : Row w1 w.heap.size [.int .i64 slots, .slice A na ca, .slice D nd cd] := by rw [← hw1]; exact Row.new _ _ _
  have hbw : Below w.heap.size w w1 := by rw [← hw1]; exact (Below.refl _ _).alloc (Nat.le_refl _) _
  have hz : w.heap.size < w1.heap.size := by rw [← hw1]; simp
  have R1 := Lib.hid row1
  clear hw1 row1
  go_loopw [2, 3] (fun s2 i wr => ∃ (k : Nat), k ≤ na ∧ i = .int .i64 k ∧ s2 = .int .i64 0 ∧ Below w1.heap.size w1 wr ∧
      Hid (attsRGo slots [] al = attsRGo slots (al.take k).reverse (al.drop k))) (fun _ i _ => na - (intOf i).toNat)
  case atStart => exact ⟨0, Nat.zero_le _, rfl, rfl, Below.refl _ _, Lib.hid rfl⟩
  case round =>
    obtain ⟨k, hk, rfl, rfl, hb, hst⟩ := hrel
    have row1 := R1.out.below hb (by omega)
    have hb0 : Below w.heap.size w wr := hbw.trans (hb.mono hbw.size)
    unfold Row at row1
    by_cases hlt : k < na
    · obtain ⟨a, ha⟩ := get_of_lt (l := al) (k := k) (by rw [← HA.out]; exact hlt)
      obtain ⟨b, off, rfl, hbB, hcs⟩ := (hA.below hb0).at_ ha
      obtain ⟨c0, c1, c2, c3, c4, c5, c6, c7⟩ := hcs k a ha
      have hd := Lib.hid (drop_of_get ha)
      have Hcs := Lib.hid hcs
      have Ha := Lib.hid ha
      clear hcs ha
      have hst' := hst.out
      rw [hd.out] at hst'
      simp only [attsRGo] at hst'
      have Hst := Lib.hid hst'
      clear hst'
      go_upto_region 7 with fail
      generalize hW1 : wr.alloc _ = W1
      have hb1 : Below w1.heap.size w1 W1 := by rw [← hW1]; exact hb.alloc hb.size _
      have hz1 : wr.heap.size < W1.heap.size := by rw [← hW1]; simp
      have row4 : Row W1 wr.heap.size [.int .i64 a.s, .int .i64 a.f, .int .i64 a.cs, .int .i64 a.co, .int .i64 a.cf, .int .i64 a.ct, .int .i64 a.cl, .int .i64 a.o] := by rw [← hW1]; exact Row.new wr _ _
      have hkeep : ∀ p : Addr, p.block < w1.heap.size → W1.cell? p = wr.cell? p := fun p hp => by rw [← hW1]; exact World.cell?_alloc_lt wr _ p (Nat.lt_of_lt_of_le hp hb.size)
      have HK := Lib.hid hkeep
      have R4 := Lib.hid row4
      have hzr := hb.size
      clear hkeep c0 c1 c2 c3 c4 c5 c6 c7 hW1 row1
      have hbb : b < W1.heap.size := Nat.lt_of_lt_of_le (Nat.lt_of_lt_of_le hbB hbw.size) hb1.size
      go_cut [60] (fun s60 W => s60 = .bool (!attR slots a || notLess (al.take k).reverse a) ∧ Below W1.heap.size W1 W)
      case first =>
        have x1 := (R1.out.below hb1 hz).ext (B := W1.heap.size) (by omega)
        have x4 := R4.out.ext (B := W1.heap.size) hz1
        have con := fun W => rattempt_any slots (.slice (some ⟨b, off, none⟩) na ca) (.slice D nd cd) a W h0 h1
        cases hat : attR slots a with
        | false =>
          rw [hat] at con
          have Con2 := Lib.hid con
          clear con
          refine wp_region_ext W1.heap.size (by kernel_rfl) (by kernel_rfl) ?_
          repeat (go_big_quiet_step ((go_at_call 118; exact Calls.ext_of (Con2.out _) (Nat.le_refl _))))
          refine wpQuiet_nil ?_
          rintro _ ⟨x, rfl⟩
          go_wp2_with fail
          go_meet
          exact ⟨by rw [hat]; rfl, x.below⟩
        | true =>
          rw [hat] at con
          have Con2 := Lib.hid con
          clear con
          by_cases hk0 : k = 0
          · subst hk0
            have hd0 : decide ((0 : Int) < ((0 : Nat) : Int)) = false := rfl
            refine wp_region_ext W1.heap.size (by kernel_rfl) (by kernel_rfl) ?_
            repeat (go_big_quiet_step ((go_at_call 118; exact Calls.ext_of (Con2.out _) (Nat.le_refl _))))
            refine wpQuiet_nil ?_
            rintro _ ⟨x, rfl⟩
            go_wp2_with fail
            go_meet
            exact ⟨by rw [hat]; rfl, x.below⟩
          · obtain ⟨j, rfl⟩ : ∃ j, k = j + 1 := ⟨k - 1, by omega⟩
            obtain ⟨p, hp⟩ := get_of_lt (l := al) (k := j) (by rw [← HA.out]; omega)
            have hx : ∀ (x : ExtW W1.heap.size W1) (j : Nat), x.val.cell? ⟨b, j, none⟩ = wr.cell? ⟨b, j, none⟩ := fun x j => (x.cell _ hbb).trans (HK.out _ (Nat.lt_of_lt_of_le hbB hbw.size))
            obtain ⟨p0, p1, p2, p3, p4, p5, p6, p7⟩ := Hcs.out j p hp
            have hki : decide ((0 : Int) < ((j + 1 : Nat) : Int)) = true := by simp
            have hw2 : IntKind.i64.wrap (((j + 1 : Nat) : Int) - 1) = (j : Int) := by rw [IntWalk.i64_in _ (by omega)]; omega
            have hjn : (j : Int) < (na : Int) := by omega
            have con3 := fun W => less_any p a W
            have Con3 := Lib.hid con3
            have HP := Lib.hid hp
            clear con3 hp
            refine wp_region_ext W1.heap.size (by kernel_rfl) (by kernel_rfl) ?_
            repeat (go_big_quiet_step ((first | (go_at_call 118; exact Calls.ext_of (Con2.out _) (Nat.le_refl _)) | (go_at_call 119; exact Calls.ext_of (Con3.out _) (Nat.le_refl _)))))
            refine wpQuiet_nil ?_
            rintro _ ⟨x, rfl⟩
            go_wp2_with fail
            go_meet
            exact ⟨by rw [revTake_succ HP.out, hat]; simp [notLess], x.below⟩
      case rest =>
        obtain ⟨rfl, hb2⟩ := hcut
        obtain ⟨wo, hwo⟩ : ∃ wo : World, wo = wc := ⟨_, rfl⟩
        subst hwo
        have hb3 : Below w1.heap.size w1 wo := hb1.trans (hb2.mono hb1.size)
        have hbo : Below w.heap.size w wo := hbw.trans (hb3.mono hbw.size)
        have row1 := R1.out.below hb3 hz
        have row4 := R4.out.below hb2 hz1
        have HK2 : Hid (∀ j : Nat, wo.cell? ⟨b, j, none⟩ = wr.cell? ⟨b, j, none⟩) := Lib.hid fun j => (hb2.cell (p := ⟨b, j, none⟩) hbb).trans (HK.out _ (Nat.lt_of_lt_of_le hbB hbw.size))
        unfold Row at row1 row4
        generalize hbad : (!attR slots a || notLess (al.take k).reverse a) = bad
        have hst' := Hst.out
        rw [hbad] at hst'
        cases bad with
        | true =>
          have hf := Lib.hid hst'
          clear hst' hbad
          go_wp2
          go_ret
          exact ⟨ret_int (by rw [hfin.out, hf.out]; rfl), hbo⟩
        | false =>
          simp only [Bool.false_eq_true, if_false] at hst'
          have hf := Lib.hid hst'
          clear hst' hbad
          go_wp2_with fail
          go_loopw [2, 5] (fun s2 s5 wr => ∃ (j m : Nat), j ≤ k ∧ s5 = .int .i64 ((j : Int) - 1) ∧ s2 = .int .i64 0 ∧ wr = wo.drewN m ∧ Hid (sameFrom (al.take k).reverse a = sameFrom (al.take j).reverse a)) (fun _ s5 _ => (intOf s5 + 1).toNat)
          case atStart => exact ⟨k, 0, Nat.le_refl _, rfl, rfl, rfl, Lib.hid rfl⟩
          case round =>
            obtain ⟨j, m, hj, rfl, rfl, rfl, hsf⟩ := hrel
            rcases Nat.eq_zero_or_pos j with hj0 | hj0
            · subst hj0
              have hd0 : decide ((0 : Int) ≤ ((0 : Nat) : Int) - 1) = false := rfl
              have hsf' : sameFrom (al.take k).reverse a = false := by rw [hsf.out]; rfl
              have hf' := hf.out
              rw [hsf'] at hf'
              have hf2 := Lib.hid hf'
              clear hf' hsf'
              go_wp2_with fail
              go_quiet (fail)
              go_wp2_with fail
              go_roundw
              case rel => exact ⟨k + 1, by omega, by go_num, rfl, by first | exact below_drewN hb3 _ | exact below_drewN (below_drewN hb3 _) _, Lib.hid (by rw [hf2.out, revTake_succ Ha.out]; rfl)⟩
              case measure => simp [intOf]; omega
            · obtain ⟨i, rfl⟩ : ∃ i, j = i + 1 := ⟨j - 1, by omega⟩
              obtain ⟨p, hp⟩ := get_of_lt (l := al) (k := i) (by rw [← HA.out]; omega)
              obtain ⟨p0, _, _, _, p4, _⟩ := Hcs.out i p hp
              have q0 := (HK2.out (off + i * 8)).trans p0
              have q4 := (HK2.out (off + i * 8 + 4)).trans p4
              have hsf' := hsf.out
              rw [revTake_succ hp] at hsf'
              simp only [sameFrom] at hsf'
              have e1 : (((i + 1 : Nat) : Int) - 1) = (i : Int) := by omega
              rw [e1]
              have hd1 : decide ((0 : Int) ≤ (i : Int)) = true := by simp
              have hin : (i : Int) < (na : Int) := by omega
              clear e1 p0 p4 hp
              by_cases hs : p.s = a.s
              · rw [if_pos hs] at hsf'
                have hse : (p.s == a.s) = true := by simpa using hs
                by_cases hc : p.cf = a.cf
                · rw [if_pos hc] at hsf'
                  have hce : (p.cf == a.cf) = true := by simpa using hc
                  have hf' := hf.out
                  rw [hsf'] at hf'
                  have hf2 := Lib.hid hf'
                  clear hf' hsf' hs hc
                  go_wp2_with fail
                  go_quiet (fail)
                  go_wp2_with fail
                  go_quiet (fail)
                  go_wp2_with fail
                  go_ret
                  exact ⟨ret_int (by rw [hfin.out, hf2.out]; rfl), by repeat (first | exact hbo | refine below_drewN ?_ _)⟩
                · rw [if_neg hc] at hsf'
                  have hce : (p.cf == a.cf) = false := by simpa using hc
                  have hsf2 := Lib.hid hsf'
                  clear hsf' hs hc
                  go_wp2_with fail
                  go_quiet (fail)
                  go_wp2_with fail
                  go_quiet (fail)
                  go_wp2_with fail
                  go_roundw
                  case rel => exact ⟨i, _, by omega, by go_num, rfl, by first | rfl | (simp; done), hsf2⟩
                  case measure => simp [intOf]
              · rw [if_neg hs] at hsf'
                have hse : (p.s == a.s) = false := by simpa using hs
                have hf' := hf.out
                rw [hsf'] at hf'
                have hf2 := Lib.hid hf'
                clear hf' hsf' hs
                go_wp2_with fail
                go_quiet (fail)
                go_wp2_with fail
                go_roundw
                case rel => exact ⟨k + 1, by omega, by go_num, rfl, by first | exact below_drewN hb3 _ | exact below_drewN (below_drewN hb3 _) _, Lib.hid (by rw [hf2.out, revTake_succ Ha.out]; rfl)⟩
                case measure => simp [intOf]; omega
    · have hal : attsRGo slots [] al = true := by rw [hst.out, List.drop_of_length_le (by rw [← HA.out]; omega)]; simp [attsRGo]
      have hfin' := hfin.out
      rw [hal] at hfin'
      have hfn := Lib.hid hfin'
      clear hfin' hal hst
      obtain ⟨w2, hw2⟩ : ∃ w2 : World, w2 = wr := ⟨_, rfl⟩
      subst hw2
      have R1' := Lib.hid (R1.out.below hb hz)
      have hz2 : w.heap.size < w2.heap.size := Nat.lt_of_lt_of_le hz hb.size
      go_wp2_with fail
      go_loopw [2, 6] (fun s2 i wr => ∃ (k : Nat), k ≤ nd ∧ i = .int .i64 k ∧ s2 = .int .i64 0 ∧ Below w2.heap.size w2 wr ∧
        Hid (dlvsRGo slots none dl = dlvsRGo slots (if k = 0 then none else dl[k - 1]?) (dl.drop k))) (fun _ i _ => nd - (intOf i).toNat)
      case atStart => exact ⟨0, Nat.zero_le _, rfl, rfl, Below.refl _ _, Lib.hid rfl⟩
      case round =>
        clear row1
        obtain ⟨k, hk, rfl, rfl, hbr, hst⟩ := hrel
        have row1 := R1'.out.below hbr hz2
        have hbd : Below w.heap.size w wr := hb0.trans (hbr.mono hb0.size)
        unfold Row at row1
        by_cases hltd : k < nd
        · obtain ⟨d, hd0⟩ := get_of_lt (l := dl) (k := k) (by rw [← HD.out]; exact hltd)
          obtain ⟨b, off, rfl, hbB, hcs⟩ := (hD.below hbd).at_ hd0
          obtain ⟨c0, c1, c2⟩ := hcs k d hd0
          have hd := Lib.hid (drop_of_get hd0)
          have Hcs := Lib.hid hcs
          have Hd0 := Lib.hid hd0
          clear hcs hd0
          have hst' := hst.out
          rw [hd.out] at hst'
          simp only [dlvsRGo] at hst'
          have Hst := Lib.hid hst'
          clear hst'
          go_upto_region 18 with fail
          generalize hW1 : wr.alloc _ = W1
          have hb1 : Below w2.heap.size w2 W1 := by rw [← hW1]; exact hbr.alloc hbr.size _
          have hz1 : wr.heap.size < W1.heap.size := by rw [← hW1]; simp
          have row7 : Row W1 wr.heap.size [.int .i64 d.fl, .int .i64 d.fr, .int .i64 d.sl] := by rw [← hW1]; exact Row.new wr _ _
          have hkeep : ∀ p : Addr, p.block < w2.heap.size → W1.cell? p = wr.cell? p := fun p hp => by rw [← hW1]; exact World.cell?_alloc_lt wr _ p (Nat.lt_of_lt_of_le hp hbr.size)
          have HK := Lib.hid hkeep
          have hbW : Below w.heap.size w W1 := hb0.trans (hb1.mono hb0.size)
          clear hkeep c0 c1 c2 hW1 row1
          have row1 := R1'.out.below hb1 hz2
          unfold Row at row1 row7
          go_cut [123] (fun s123 W => s123 = .bool (!dlvR slots d) ∧ W = W1)
          case first =>
            go_wp2_with (go_at_call 117; refine (in_any _ _ _ _).mono ?_; rintro e w' ⟨rfl, rfl⟩)
            all_goals
              go_meet
              exact ⟨by simp [dlvR, *], rfl⟩
          case rest =>
            obtain ⟨rfl, hwc⟩ := hcut
            subst wc
            have hst' := Hst.out
            cases hdl : dlvR slots d with
            | false =>
              rw [hdl] at hst'
              have hf := Lib.hid hst'
              clear hst'
              go_wp2
              go_ret
              exact ⟨ret_int (by rw [hfn.out, hf.out]; rfl), hbW⟩
            | true =>
              rw [hdl] at hst'
              simp only [Bool.true_eq_false, if_false] at hst'
              have hf := Lib.hid hst'
              clear hst'
              by_cases hk0 : k = 0
              · subst hk0
                go_wp2
                go_roundw
                case rel => exact ⟨1, by omega, rfl, rfl, hb1, Lib.hid (by rw [hf.out]; simp [Hd0.out, backO])⟩
                case measure => simp [intOf]; omega
              · obtain ⟨j, rfl⟩ : ∃ j, k = j + 1 := ⟨k - 1, by omega⟩
                obtain ⟨p, hp⟩ := get_of_lt (l := dl) (k := j) (by rw [← HD.out]; omega)
                obtain ⟨p0, p1, p2⟩ := Hcs.out j p hp
                have hlb : b < w2.heap.size := Nat.lt_of_lt_of_le hbB hb0.size
                have q0 := (HK.out ⟨b, off + j * 3, none⟩ hlb).trans p0
                have q1 := (HK.out ⟨b, off + j * 3 + 1, none⟩ hlb).trans p1
                have q2 := (HK.out ⟨b, off + j * 3 + 2, none⟩ hlb).trans p2
                have hf' := hf.out
                rw [if_neg (show ¬ (j + 1 = 0) by omega), show j + 1 - 1 = j from rfl, hp] at hf'
                have hk1 : (0 : Int) < ((j + 1 : Nat) : Int) := by omega
                have hf1 := Lib.hid hf'
                clear p0 p1 p2 hp hf'
                go_upto_region 22 with fail
                generalize hW2 : W1.alloc _ = W2
                have row8 : Row W2 W1.heap.size [.int .i64 p.fl, .int .i64 p.fr, .int .i64 p.sl] := by rw [← hW2]; exact Row.new W1 _ _
                have row7' : Row W2 wr.heap.size [.int .i64 d.fl, .int .i64 d.fr, .int .i64 d.sl] := by rw [← hW2]; exact Row.alloc row7 hz1 _
                have hbW2 : Below w2.heap.size w2 W2 := by rw [← hW2]; exact hb1.alloc hb1.size _
                clear hW2 q0 q1 q2 row7 row1
                unfold Row at row8 row7'
                go_cut [151] (fun s151 W => s151 = .bool (backD p d) ∧ W = W2)
                case first =>
                  go_wp2
                  all_goals
                    go_meet
                    exact ⟨by simp [backD, *], rfl⟩
                case rest =>
                  obtain ⟨rfl, hwc⟩ := hcut
                  subst wc
                  have hf' := hf1.out
                  cases hbk : backD p d with
                  | true =>
                    rw [show backO (some p) d = true from hbk] at hf'
                    have hf2 := Lib.hid hf'
                    clear hf'
                    go_wp2
                    go_ret
                    exact ⟨ret_int (by rw [hfn.out, hf2.out]; rfl), hb0.trans (hbW2.mono hb0.size)⟩
                  | false =>
                    rw [show backO (some p) d = false from hbk] at hf'
                    simp only [Bool.false_eq_true, if_false] at hf'
                    have hf2 := Lib.hid hf'
                    clear hf'
                    go_wp2
                    go_roundw
                    case rel => exact ⟨j + 1 + 1, by omega, by go_num, rfl, hbW2, Lib.hid (by rw [hf2.out, if_neg (by omega), show j + 1 + 1 - 1 = j + 1 from rfl, Hd0.out])⟩
                    case measure => simp [intOf]; omega
        · go_wp2
          go_ret
          exact ⟨ret_int (by rw [hfn.out, hst.out, List.drop_of_length_le (by rw [← HD.out]; omega)]; simp [dlvsRGo]), hbd⟩

end Go.Proofs.YticnppnejafhdaaGreatDoor
/- Walks: the reference of the monitor layer: the check, where a frame was delivered. -/
namespace Go.Proofs.YticnppnejafhdaaGreatDoor
open Go.RowKit
open Nd Rc Mo

set_option maxHeartbeats 1000000 in
theorem rfchk_any (fs : List Fl) (r : Rec) (F A D : Option Addr) (cf ca cd : Nat) (w : World) (hF : Lies w w.heap.size 6 F (fs.map Fl.row)) (hf : fs.length ≤ 1000000) (hA : LiesA w w.heap.size A r.al) (hD : LiesD w w.heap.size D r.dl) (hla : r.al.length ≤ 1000000) (hld : r.dl.length ≤ 1000000) :
    Calls Tryz.prog 109 #[.slice F fs.length cf, .agg #[.int .i64 r.slots, .slice A r.al.length ca, .slice D r.dl.length cd]] w fun e w' => e = .returned (.int .i64 (if right fs r = true then 0 else 1)) ∧ Below w.heap.size w w' := by
  obtain ⟨slots, al, dl⟩ := r
  dsimp only at *
  obtain ⟨na, hna⟩ : ∃ n, n = al.length := ⟨_, rfl⟩
  obtain ⟨nd, hnd⟩ : ∃ n, n = dl.length := ⟨_, rfl⟩
  obtain ⟨W1, hW1⟩ : ∃ W1, W1 = w.alloc (.cells #[.int .i64 slots, .slice A na ca, .slice D nd cd] 35) := ⟨_, rfl⟩
  have hb1 : Below w.heap.size w W1 := by rw [hW1]; exact (Below.refl _ _).alloc (Nat.le_refl _) _
  have bR : Blk W1 w.heap.size 35 [.int .i64 slots, .slice A na ca, .slice D nd cd] := by rw [hW1]; exact Blk.new2 _ [.int .i64 slots, .slice A na ca, .slice D nd cd] rfl
  have Con := Lib.hid (rCheck_any fs F cf W1 (Lies.later hF hb1) hf)
  have Con2 := Lib.hid (fun W (h' : Below W1.heap.size W1 W) => rcheck_any ⟨slots, al, dl⟩ A D ca cd W ((hA.below hb1).more hb1.size |>.below h' |>.more h'.size) ((hD.below hb1).more hb1.size |>.below h' |>.more h'.size) (by dsimp only; omega) (by dsimp only; omega))
  obtain ⟨V, hV⟩ : ∃ V : Int, V = if right fs ⟨slots, al, dl⟩ = true then 0 else 1 := ⟨_, rfl⟩
  have hT : right fs ⟨slots, al, dl⟩ = (decide ((chkF fs).2 = 0) && (rcheckE ⟨slots, al, dl⟩ == 0)) := by
    rw [← check_agree]
    unfold right checkE
    cases good ⟨slots, al, dl⟩ <;> rfl
  rw [← hV]
  rw [hT] at hV
  generalize chkF fs = T at *
  generalize hE : rcheckE ⟨slots, al, dl⟩ = E at *
  dsimp only at Con2
  rw [← hna, ← hnd] at Con2 ⊢
  generalize fs.length = m at *
  have HR := Lib.hid (fun W (h' : Below W1.heap.size W1 W) => (bR.below h' bR.lt).row)
  have HB1 := Lib.hid hb1
  have HV := Lib.hid hV
  have hlt : w.heap.size < W1.heap.size := bR.lt
  clear hF hA hD hna hnd hT hE hV hb1 bR
  subst hW1
  go_enter Tryz.func109, Tryz.ntmps109
  go_wp2_with fail
  refine Con.out.mono ?_
  rintro e w2 ⟨rfl, hb2⟩
  have r2 := HR.out _ hb2
  unfold Row at r2
  have hfin := HB1.out.trans (hb2.mono HB1.out.size)
  have Con3 := Lib.hid (Con2.out _ hb2)
  by_cases hc : T.2 = 0
  · have e1 : (T.2 != 0) = false := by simpa using hc
    have e2 : decide (T.2 = 0) = true := decide_eq_true hc
    by_cases hE : E = 0
    · have e3 : (E != 0) = false := by simpa using hE
      have E2 : Hid (V = 0) := Lib.hid (by rw [HV.out, e2, hE]; rfl)
      clear hc hE e2 Con Con2 HR
      go_wp2_with (go_at_call 84; (with_reducible refine Con3.out.mono ?_); rintro e w3 ⟨rfl, hb3⟩)
      go_ret
      exact ⟨ret_int (by rw [E2.out]), hfin.trans (hb3.mono hfin.size)⟩
    · have e3 : (E != 0) = true := by simpa using hE
      have E2 : Hid (V = 1) := Lib.hid (by rw [HV.out, e2, show (E == 0) = false from by simpa using hE]; rfl)
      clear hc hE e2 Con Con2 HR
      go_wp2_with (go_at_call 84; (with_reducible refine Con3.out.mono ?_); rintro e w3 ⟨rfl, hb3⟩)
      go_ret
      exact ⟨ret_int (by rw [E2.out]), hfin.trans (hb3.mono hfin.size)⟩
  · have e1 : (T.2 != 0) = true := by simpa using hc
    have E2 : Hid (V = 1) := Lib.hid (by rw [HV.out, decide_eq_false hc]; rfl)
    clear hc Con Con2 HR Con3
    go_wp2_with fail
    go_ret
    exact ⟨ret_int (by rw [E2.out]), hfin⟩

theorem deliv_cons (d : Dlv) (l : List Dlv) (fl fr a b : Int) : deliv (d :: l) fl fr a b = if (d.fl == fl && d.fr == fr && decide (a ≤ d.sl) && decide (d.sl ≤ b)) = true then d.sl else deliv l fl fr a b := by
  unfold deliv slotsOf
  cases h1 : (d.fl == fl && d.fr == fr) with
  | false => rw [List.filter_cons_of_neg (by simp [h1])]; simp
  | true =>
    rw [List.filter_cons_of_pos (by simpa using h1), List.map_cons, Bool.true_and]
    cases h2 : (decide (a ≤ d.sl) && decide (d.sl ≤ b)) with
    | false => rw [List.find?_cons_of_neg (by simp [h2])]; simp
    | true => rw [List.find?_cons_of_pos (by simpa using h2)]; rfl

set_option maxRecDepth 100000 in
set_option maxHeartbeats 2000000 in
theorem deliv_any (r : Rec) (f : Fl) (fr x y : Int) (A D : Option Addr) (ca cd : Nat) (w : World) (hD : LiesD w w.heap.size D r.dl) (hld : r.dl.length ≤ 1000000) :
    Calls Tryz.prog 110 #[.agg #[.int .i64 r.slots, .slice A r.al.length ca, .slice D r.dl.length cd], .agg #[.int .i64 f.id, .int .i64 f.fr, .int .i64 f.tn, .int .i64 f.pe, .int .i64 f.ph, .int .i64 f.dl], .int .i64 fr, .int .i64 x, .int .i64 y] w fun e w' => e = .returned (.int .i64 (deliv r.dl f.id fr x y)) ∧ Below w.heap.size w w' := by
  obtain ⟨N, hN⟩ : ∃ N, N = w.heap.size := ⟨_, rfl⟩
  obtain ⟨na, hna⟩ : ∃ n, n = r.al.length := ⟨_, rfl⟩
  obtain ⟨nd, hnd⟩ : ∃ n, n = r.dl.length := ⟨_, rfl⟩
  obtain ⟨slots, hsl⟩ : ∃ s, s = r.slots := ⟨_, rfl⟩
  obtain ⟨T, hT⟩ : ∃ T, T = deliv r.dl f.id fr x y := ⟨_, rfl⟩
  obtain ⟨W1, hW1⟩ : ∃ W1, W1 = (w.alloc (.cells #[.int .i64 slots, .slice A na ca, .slice D nd cd] 35)).alloc (.cells #[.int .i64 f.id, .int .i64 f.fr, .int .i64 f.tn, .int .i64 f.pe, .int .i64 f.ph, .int .i64 f.dl] 28) := ⟨_, rfl⟩
  have hb1 : Below N w W1 := by rw [hW1, hN]; exact ((Below.refl _ _).alloc (Nat.le_refl _) _).alloc (by simp) _
  have bR : Blk W1 N 35 [.int .i64 slots, .slice A na ca, .slice D nd cd] := by rw [hW1]; exact Blk.alloc (Blk.new2 _ [.int .i64 slots, .slice A na ca, .slice D nd cd] hN) _
  have bF : Blk W1 (N + 1) 28 [.int .i64 f.id, .int .i64 f.fr, .int .i64 f.tn, .int .i64 f.pe, .int .i64 f.ph, .int .i64 f.dl] := by rw [hW1]; exact Blk.new2 _ [.int .i64 f.id, .int .i64 f.fr, .int .i64 f.tn, .int .i64 f.pe, .int .i64 f.ph, .int .i64 f.dl] (by simp [hN])
  have HW := Lib.hid (fun W (h' : Below W1.heap.size W1 W) => (show Below w.heap.size w W ∧ Row W N [.int .i64 slots, .slice A na ca, .slice D nd cd] ∧ Row W (N + 1) [.int .i64 f.id, .int .i64 f.fr, .int .i64 f.tn, .int .i64 f.pe, .int .i64 f.ph, .int .i64 f.dl] ∧ LiesD W W.heap.size D r.dl from by
    have hB : Below w.heap.size w W := by rw [← hN]; exact hb1.trans (h'.mono (by have := bR.lt; omega))
    exact ⟨hB, (bR.below h' bR.lt).row, (bF.below h' bF.lt).row, (hD.below hB).more hB.size⟩))
  rw [← hT, ← hna, ← hnd, ← hsl]
  rw [← hnd] at hld
  have HT := Lib.hid (show T = deliv (r.dl.drop 0) f.id fr x y from hT)
  have HNd := Lib.hid hnd
  have HW1 := Lib.hid hW1
  have HN := Lib.hid hN
  have hNlt : N + 1 < W1.heap.size := bF.lt
  clear hD hT hna hnd hsl hN hW1 hb1 bR bF
  go_enter Tryz.func110, Tryz.ntmps110
  go_wp2_with fail
  rw [← HW1.out, ← HN.out]
  go_loopw [11] (fun i wr => ∃ (k : Nat), k ≤ nd ∧ i = .int .i64 k ∧ Below W1.heap.size W1 wr ∧ Hid (T = deliv (r.dl.drop k) f.id fr x y)) (fun i _ => nd - (intOf i).toNat)
  case atStart => exact ⟨0, by omega, rfl, Below.refl _ _, HT⟩
  case round =>
    clear HT
    obtain ⟨k, hk, rfl, hb, HTk⟩ := hrel
    by_cases hlt : k < nd
    · obtain ⟨d, hdk⟩ := get_of_lt (l := r.dl) (k := k) (by rw [← HNd.out]; exact hlt)
      have r1 := (HW.out _ hb).2.1
      obtain ⟨ab, aoff, rfl, haB, hcs⟩ := (HW.out _ hb).2.2.2.at_ hdk
      obtain ⟨c0, c1, c2⟩ := hcs k d hdk
      have HT' : Hid (T = if (d.fl == f.id && d.fr == fr && decide (x ≤ d.sl) && decide (d.sl ≤ y)) = true then d.sl else deliv (r.dl.drop (k + 1)) f.id fr x y) := Lib.hid (by rw [HTk.out, drop_of_get hdk, deliv_cons])
      unfold Row at r1
      clear hcs hdk HTk
      go_upto_region 5 with fail
      clear c0 c1 c2 r1
      obtain ⟨X, hX⟩ : ∃ X, X = wr.heap.size := ⟨_, rfl⟩
      generalize hWa : World.alloc _ _ = Wa
      have b1 : Blk Wa X 137 [.int .i64 d.fl, .int .i64 d.fr, .int .i64 d.sl] := by rw [← hWa]; exact Blk.new2 _ [.int .i64 d.fl, .int .i64 d.fr, .int .i64 d.sl] hX
      have hba : Below W1.heap.size W1 Wa := by rw [← hWa]; exact hb.alloc hb.size _
      rw [← hX]
      clear hWa hX hb
      have r1 := (HW.out _ hba).2.1
      have r2 := (HW.out _ hba).2.2.1
      have r3 := b1.row
      unfold Row at r1 r2 r3
      clear b1
      by_cases h1 : d.fl = f.id
      case neg =>
        have e1 : (d.fl == f.id) = false := by simpa using h1
        have HN2 : Hid (T = deliv (r.dl.drop (k + 1)) f.id fr x y) := Lib.hid (by rw [HT'.out, if_neg (by simp only [Bool.and_eq_true, beq_iff_eq, decide_eq_true_eq]; omega)])
        clear HT'
        go_wp2_with fail
        go_roundw
        case rel => exact ⟨k + 1, by omega, by go_num, hba, HN2⟩
        case measure => simp [intOf]; omega
      have e1 : (d.fl == f.id) = true := by simpa using h1
      by_cases h2 : d.fr = fr
      case neg =>
        have e2 : (d.fr == fr) = false := by simpa using h2
        have HN2 : Hid (T = deliv (r.dl.drop (k + 1)) f.id fr x y) := Lib.hid (by rw [HT'.out, if_neg (by simp only [Bool.and_eq_true, beq_iff_eq, decide_eq_true_eq]; omega)])
        clear HT'
        go_wp2_with fail
        go_roundw
        case rel => exact ⟨k + 1, by omega, by go_num, hba, HN2⟩
        case measure => simp [intOf]; omega
      have e2 : (d.fr == fr) = true := by simpa using h2
      by_cases h3 : x ≤ d.sl
      case neg =>
        have e3 : decide (x ≤ d.sl) = false := by simpa using h3
        have HN2 : Hid (T = deliv (r.dl.drop (k + 1)) f.id fr x y) := Lib.hid (by rw [HT'.out, if_neg (by simp only [Bool.and_eq_true, beq_iff_eq, decide_eq_true_eq]; omega)])
        clear HT'
        go_wp2_with fail
        go_roundw
        case rel => exact ⟨k + 1, by omega, by go_num, hba, HN2⟩
        case measure => simp [intOf]; omega
      have e3 : decide (x ≤ d.sl) = true := by simpa using h3
      by_cases h4 : d.sl ≤ y
      case neg =>
        have e4 : decide (d.sl ≤ y) = false := by simpa using h4
        have HN2 : Hid (T = deliv (r.dl.drop (k + 1)) f.id fr x y) := Lib.hid (by rw [HT'.out, if_neg (by simp only [Bool.and_eq_true, beq_iff_eq, decide_eq_true_eq]; omega)])
        clear HT'
        go_wp2_with fail
        go_roundw
        case rel => exact ⟨k + 1, by omega, by go_num, hba, HN2⟩
        case measure => simp [intOf]; omega
      have e4 : decide (d.sl ≤ y) = true := by simpa using h4
      have hf : Hid (T = d.sl) := Lib.hid (by rw [HT'.out, if_pos (by simp only [Bool.and_eq_true, beq_iff_eq, decide_eq_true_eq]; omega)])
      clear HT'
      go_wp2_with fail
      go_ret
      exact ⟨ret_int (by rw [hf.out]), (HW.out _ hba).1⟩
    · have hf : Hid (T = -1) := Lib.hid (by rw [HTk.out, List.drop_of_length_le (by rw [← HNd.out]; omega)]; rfl)
      have r1 := (HW.out _ hb).2.1
      unfold Row at r1
      go_wp2_with fail
      go_ret
      exact ⟨ret_int (by rw [hf.out]), (HW.out _ hb).1⟩
end Go.Proofs.YticnppnejafhdaaGreatDoor
/- Walk: the reference of Late. -/
namespace Go.Proofs.YticnppnejafhdaaGreatDoor
open Go.RowKit
open Nd Rc Mo

theorem Calls.ext_below {P : Program} {g : FuncId} {args : Array Value} {w : World} {B : Nat} {x : ExtW B w} {v : Value}
    (h : Calls P g args x.val fun e w' => e = .returned v ∧ Below x.val.heap.size x.val w') (hB : B ≤ w.heap.size) : Calls P g args x.val fun e w'' => e = .returned v ∧ ∃ y : ExtW B w, w'' = y.val :=
  h.mono fun _ w2 ⟨he, hb⟩ => ⟨he, ⟨w2, x.below.trans (hb.mono (Nat.le_trans hB x.below.size))⟩, rfl⟩
theorem lateN_ref {f : Fl} {dl : List Dlv} (hd : ∀ d ∈ dl, 0 ≤ d.sl) (n : Nat) : lateN f dl n = if deliv dl f.id n (rel f n) (rel f n + f.dl - 1) < 0 then [⟨f.id, n, deliv dl f.id n (rel f n + f.dl) (rel f n + f.pe - 1)⟩] else [] := by
  unfold lateN
  rw [arrival_eq hd n]
  split <;> simp

set_option maxRecDepth 100000 in
set_option maxHeartbeats 4000000 in
theorem rlate_any (fs : List Fl) (r : Rec) (F A D : Option Addr) (cf ca cd : Nat) (w : World) (hF : Lies w w.heap.size 6 F (fs.map Fl.row)) (hf : fs.length ≤ 1000000) (hA : LiesA w w.heap.size A r.al) (hD : LiesD w w.heap.size D r.dl) (hla : r.al.length ≤ 1000000) (hld : r.dl.length ≤ 1000000) :
    Calls Tryz.prog 78 #[.slice F fs.length cf, .agg #[.int .i64 r.slots, .slice A r.al.length ca, .slice D r.dl.length cd]] w fun e w' => Below w.heap.size w w' ∧ ∃ v, e = .returned (.tuple #[v, .int .i64 (late fs r).2]) ∧ w'.ownsRow w.heap.size 39 3 v (late fs r).1.length ((late fs r).1.flatMap Lt.row) := by
  obtain ⟨i0, hi, hz0, hz1, hz2⟩ := info_parts Tryz.infoL
  obtain ⟨N, hN⟩ : ∃ N, N = w.heap.size := ⟨_, rfl⟩
  obtain ⟨na, hna⟩ : ∃ n, n = r.al.length := ⟨_, rfl⟩
  obtain ⟨nd, hnd⟩ : ∃ n, n = r.dl.length := ⟨_, rfl⟩
  obtain ⟨m, hm⟩ : ∃ m, m = fs.length := ⟨_, rfl⟩
  obtain ⟨slots, hsl⟩ : ∃ s, s = r.slots := ⟨_, rfl⟩
  obtain ⟨W1, hW1⟩ : ∃ W1, W1 = w.alloc (.cells #[.int .i64 slots, .slice A na ca, .slice D nd cd] 35) := ⟨_, rfl⟩
  have hb1 : Below N w W1 := by rw [hW1, hN]; exact (Below.refl _ _).alloc (Nat.le_refl _) _
  have bR : Blk W1 N 35 [.int .i64 slots, .slice A na ca, .slice D nd cd] := by rw [hW1]; exact Blk.new2 _ [.int .i64 slots, .slice A na ca, .slice D nd cd] hN
  have HW := Lib.hid (fun W (h' : Below W1.heap.size W1 W) => (show Below w.heap.size w W ∧ Row W N [.int .i64 slots, .slice A na ca, .slice D nd cd] from ⟨by rw [← hN]; exact hb1.trans (h'.mono (by have := bR.lt; omega)), (bR.below h' bR.lt).row⟩))
  have HF := Lib.hid (fun W (h' : Below W1.heap.size W1 W) => Lies.later hF (HW.out W h').1)
  have HRt := Lib.hid (rfchk_any fs r F A D cf ca cd W1 (HF.out _ (Below.refl _ _)) hf ((hA.below (HW.out _ (Below.refl _ _)).1).more (HW.out _ (Below.refl _ _)).1.size) ((hD.below (HW.out _ (Below.refl _ _)).1).more (HW.out _ (Below.refl _ _)).1.size) hla hld)
  have HDv := Lib.hid (fun (f : Fl) (n : Int) (x y : Int) W (h' : Below W1.heap.size W1 W) => deliv_any r f n x y A D ca cd W ((hD.below (HW.out W h').1).more (HW.out W h').1.size) hld)
  rw [← hna, ← hnd, ← hsl] at HRt HDv ⊢
  rw [← hm] at HRt ⊢
  obtain ⟨E, hE⟩ : ∃ E : Int, E = if right fs r = true then 0 else 1 := ⟨_, rfl⟩
  have HE : Hid ((right fs r = true ∧ E = 0) ∨ (right fs r = false ∧ E = 1)) := Lib.hid (by rw [hE]; cases right fs r <;> simp)
  rw [← hE] at HRt
  have HM := Lib.hid hm
  have HSl := Lib.hid hsl
  have HW1 := Lib.hid hW1
  have HN := Lib.hid hN
  have hNlt : N < W1.heap.size := bR.lt
  have r1 := (HW.out _ (Below.refl _ _)).2
  unfold Row at r1
  clear hF hA hD hna hnd hm hsl hb1 bR hN hf hla hld hE
  subst hW1
  go_enter Tryz.func78, Tryz.ntmps78
  clear r1
  go_wp2_with fail
  rw [← HN.out]
  refine HRt.out.mono ?_
  rintro e w2 ⟨rfl, hb2⟩
  clear HRt
  rcases HE.out with ⟨hr, rfl⟩ | ⟨hr, rfl⟩
  case inr =>
    have hl : Hid (late fs r = ([], 1)) := Lib.hid (by unfold late; rw [hr]; rfl)
    clear hr HE
    go_wp2_with fail
    go_ret2
    exact ⟨(HW.out _ hb2).1, _, by rw [hl.out]; rfl, by rw [hl.out]; exact World.ownsRow_nil _ _ _ _⟩
  have hl : Hid (late fs r = (fs.flatMap (fun f => lateF f r), 0)) := Lib.hid (by unfold late; rw [if_pos hr])
  obtain ⟨hc, hg⟩ := right_inv hr
  obtain ⟨hfa, _, hm16⟩ := chkF_ok hc
  obtain ⟨hs0, hs1⟩ := good_slots hg
  have HFa := Lib.hid hfa
  have HLn := Lib.hid (fun (f : Fl) (n : Nat) => @lateN_ref f r.dl (fun d hd => (good_dlv hg hd).1) n)
  rw [← HSl.out] at hs0 hs1
  have hm16' : m ≤ 16 := by rw [HM.out]; exact hm16
  have HX := Lib.hid (fun W (h' : Below w2.heap.size w2 W) => (show Below w.heap.size w W ∧ Row W N [.int .i64 slots, .slice A na ca, .slice D nd cd] ∧ Lies W W.heap.size 6 F (fs.map Fl.row) from ⟨(HW.out _ (hb2.trans (h'.mono hb2.size))).1, (HW.out _ (hb2.trans (h'.mono hb2.size))).2, HF.out _ (hb2.trans (h'.mono hb2.size))⟩))
  have HDv2 := Lib.hid (fun (f : Fl) (n : Int) (x y : Int) W (h' : Below w2.heap.size w2 W) => HDv.out f n x y W (hb2.trans (h'.mono hb2.size)))
  have hMN : N < w2.heap.size := Nat.lt_of_lt_of_le hNlt hb2.size
  clear hc hg hfa hr hm16 HE hb2 HW HF HW1 HDv
  go_wp2_with fail
  go_loopw [7, 8] (fun s7 i wr => ∃ (k : Nat) (v : Value), v = s7 ∧ k ≤ m ∧ i = .int .i64 k ∧ Below w2.heap.size w2 wr ∧ Hid (wr.ownsRow w2.heap.size 39 3 v ((fs.take k).flatMap (fun f => lateF f r)).length (((fs.take k).flatMap (fun f => lateF f r)).flatMap Lt.row))) (fun _ i _ => m - (intOf i).toNat)
  case atStart => exact ⟨0, _, rfl, by omega, rfl, Below.refl _ _, Lib.hid (World.ownsRow_nil _ _ _ _)⟩
  case round =>
    obtain ⟨k, v, rfl, hk, rfl, hb, HO⟩ := hrel
    by_cases hlt : k < m
    · obtain ⟨f, hfk⟩ := get_of_lt (l := fs) (k := k) (by rw [← HM.out]; exact hlt)
      have hff := HFa.out f (List.mem_of_getElem? hfk)
      obtain ⟨fb, foff, rfl, hfB, hcs⟩ := (HX.out _ hb).2.2.at_ hfk
      have c0 := hcs k f hfk 0 _ rfl
      have c1 := hcs k f hfk 1 _ rfl
      have c2 := hcs k f hfk 2 _ rfl
      have c3 := hcs k f hfk 3 _ rfl
      have c4 := hcs k f hfk 4 _ rfl
      have c5 := hcs k f hfk 5 _ rfl
      simp only [Nat.add_zero] at c0 c1 c2 c3 c4 c5
      have HFk := Lib.hid hfk
      clear hcs
      go_upto_region 9 with fail
      clear c0 c1 c2 c3 c4 c5 hfk
      obtain ⟨X, hX⟩ : ∃ X, X = wr.heap.size := ⟨_, rfl⟩
      generalize hWa : World.alloc _ _ = Wa
      have bX : Blk Wa X 28 [.int .i64 f.id, .int .i64 f.fr, .int .i64 f.tn, .int .i64 f.pe, .int .i64 f.ph, .int .i64 f.dl] := by rw [← hWa]; exact Blk.new2 _ [.int .i64 f.id, .int .i64 f.fr, .int .i64 f.tn, .int .i64 f.pe, .int .i64 f.ph, .int .i64 f.dl] hX
      have hba : Below w2.heap.size w2 Wa := by rw [← hWa]; exact hb.alloc hb.size _
      have HO4 : Hid (Wa.ownsRow w2.heap.size 39 3 v (lateQ fs r k f 0).length ((lateQ fs r k f 0).flatMap Lt.row)) := Lib.hid (by rw [← hWa]; have := HO.out.alloc (.cells #[.int .i64 f.id, .int .i64 f.fr, .int .i64 f.tn, .int .i64 f.pe, .int .i64 f.ph, .int .i64 f.dl] 28); unfold lateQ; simpa using this)
      rw [← hX]
      clear hWa hX HO hb
      have HX4 := Lib.hid bX
      have hcb := complete_bounds hff hs1
      obtain ⟨cn, hcn⟩ : ∃ cn : Nat, complete f slots = (cn : Int) := ⟨(complete f slots).toNat, by omega⟩
      have HCN : Hid (cn = (complete f r.slots).toNat) := Lib.hid (by rw [← HSl.out, hcn]; rfl)
      have hcn4 : cn ≤ 4096 := by omega
      have HCi := Lib.hid (fun n : Nat => (complete_iff hff slots n).trans (by rw [hcn]; rfl : n < (complete f slots).toNat ↔ n < cn))
      have HQl : Hid (∀ n, n ≤ 4096 → (lateQ fs r k f n).length ≤ 100000) := Lib.hid (fun n hn => by
        unfold lateQ
        rw [List.length_append]
        have h1 := late_len (r := r) (by rw [← HSl.out]; exact hs1) (fs.take k) (fun g hg => HFa.out g (List.mem_of_mem_take hg))
        have h2 := range_len f r.dl n
        have h3 := List.length_take_le k fs
        rw [List.length_take] at h1
        have h4 : min k fs.length ≤ 16 := by omega
        omega)
      have HRl := Lib.hid (fun (n : Nat) (hn : n ≤ 4096) W => rrel_any f n hff (by omega) (by omega) W)
      have HRb : Hid (∀ n : Nat, n ≤ 4096 → 0 ≤ rel f n ∧ rel f n ≤ 10000000) := Lib.hid (fun n hn => by
        obtain ⟨_, _, _, hp, hq, hdl, _⟩ := fault_zero hff
        have hm0 : 0 ≤ (n : Int) * f.pe := Int.mul_nonneg (by omega) (by omega)
        have hm1 : (n : Int) * f.pe ≤ 4096 * f.pe := Int.mul_le_mul_of_nonneg_right (by omega) (by omega)
        unfold rel
        omega)
      have hfb : 0 ≤ f.dl ∧ f.dl ≤ 1000000 ∧ 0 ≤ f.pe ∧ f.pe ≤ 1000000 := by
        obtain ⟨_, _, _, hp, hq, hdl, _⟩ := fault_zero hff
        omega
      clear hcb hcn bX hff
      go_wp2_with fail
      go_loopw [7, 10] (fun s7 j wr => ∃ (n : Nat) (v : Value), v = s7 ∧ n ≤ cn ∧ j = .int .i64 n ∧ Below w2.heap.size w2 wr ∧ Hid (Blk wr X 28 [.int .i64 f.id, .int .i64 f.fr, .int .i64 f.tn, .int .i64 f.pe, .int .i64 f.ph, .int .i64 f.dl]) ∧ Hid (wr.ownsRow w2.heap.size 39 3 v (lateQ fs r k f n).length ((lateQ fs r k f n).flatMap Lt.row))) (fun _ j _ => cn - (intOf j).toNat)
      case atStart => exact ⟨0, _, rfl, by omega, rfl, hba, HX4, HO4⟩
      case round =>
        clear HX4 HO4 hba
        obtain ⟨n, v2, rfl, hn, rfl, hb, HXb, HO⟩ := hrel
        have hn4 : n ≤ 4096 := by omega
        obtain ⟨R, hR⟩ : ∃ R, R = rel f n := ⟨_, rfl⟩
        have Con := Lib.hid (HRl.out n hn4)
        have hRb := HRb.out n hn4
        have HCn := Lib.hid (HCi.out n)
        have HLn2 := Lib.hid (HLn.out f n)
        rw [← hR] at Con hRb HCn HLn2
        clear hR
        have hw1 : IntKind.i64.wrap (R + f.dl) = R + f.dl := by rw [IntKind.wrap_i64]; omega
        have hw2 : IntKind.i64.wrap (R + f.dl - 1) = R + f.dl - 1 := by rw [IntKind.wrap_i64]; omega
        have hw3 : IntKind.i64.wrap (R + f.pe) = R + f.pe := by rw [IntKind.wrap_i64]; omega
        have hw4 : IntKind.i64.wrap (R + f.pe - 1) = R + f.pe - 1 := by rw [IntKind.wrap_i64]; omega
        have xY := HXb.out.row.ext (B := wr.heap.size) HXb.out.lt
        have xN := (show Row wr N [.int .i64 slots, .slice A na ca, .slice D nd cd] from (HX.out _ hb).2.1).ext (B := wr.heap.size) (Nat.lt_of_lt_of_le hMN hb.size)
        go_upto_region 10 with fail
        refine wp_region_ext wr.heap.size (by kernel_rfl) (by kernel_rfl) ?_
        repeat (go_big_quiet_step ((go_at_call 79; exact Calls.ext_below (Con.out _) (Nat.le_refl _))))
        refine wpQuiet_nil ?_
        rintro w3 ⟨x, hw3⟩
        have hx3 : Below wr.heap.size wr w3 := by rw [hw3]; exact x.below
        clear hw3 x
        have hB3 : Below w2.heap.size w2 w3 := hb.trans (hx3.mono hb.size)
        have HX3 : Hid (Blk w3 X 28 [.int .i64 f.id, .int .i64 f.fr, .int .i64 f.tn, .int .i64 f.pe, .int .i64 f.ph, .int .i64 f.dl]) := Lib.hid (HXb.out.below hx3 HXb.out.lt)
        have HO3 : Hid (w3.ownsRow w2.heap.size 39 3 v2 (lateQ fs r k f n).length ((lateQ fs r k f n).flatMap Lt.row)) := Lib.hid (own_below HO.out hx3 (Nat.le_refl _))
        clear HO HXb hx3 hb xY xN
        by_cases hlt2 : n < cn
        · have d0 : decide (R + f.dl ≤ slots) = true := decide_eq_true (HCn.out.2 hlt2)
          rw [d0]
          obtain ⟨D1, hD1⟩ : ∃ D1, D1 = deliv r.dl f.id n R (R + f.dl - 1) := ⟨_, rfl⟩
          obtain ⟨D2, hD2⟩ : ∃ D2, D2 = deliv r.dl f.id n (R + f.dl) (R + f.pe - 1) := ⟨_, rfl⟩
          have C1 := Lib.hid (HDv2.out f n R (R + f.dl - 1))
          have C2 := Lib.hid (HDv2.out f n (R + f.dl) (R + f.pe - 1))
          rw [← hD1] at C1 HLn2
          rw [← hD2] at C2 HLn2
          have r3 := HX3.out.row
          unfold Row at r3
          clear hD1 hD2
          go_wp2_with fail
          refine (Con.out _).mono ?_
          rintro e w4 ⟨rfl, hb4⟩
          have hB4 : Below w2.heap.size w2 w4 := hB3.trans (hb4.mono hB3.size)
          have HX4 : Hid (Blk w4 X 28 [.int .i64 f.id, .int .i64 f.fr, .int .i64 f.tn, .int .i64 f.pe, .int .i64 f.ph, .int .i64 f.dl]) := Lib.hid (HX3.out.below hb4 HX3.out.lt)
          have HO4 : Hid (w4.ownsRow w2.heap.size 39 3 v2 (lateQ fs r k f n).length ((lateQ fs r k f n).flatMap Lt.row)) := Lib.hid (own_below HO3.out hb4 (Nat.le_refl _))
          clear HO3 HX3 hb4 r3 d0 Con hB3
          have r4 := HX4.out.row
          have n4 := (HX.out _ hB4).2.1
          unfold Row at r4 n4
          go_wp2_with fail
          refine (C1.out _ hB4).mono ?_
          rintro e w5 ⟨rfl, hb5⟩
          have hB5 : Below w2.heap.size w2 w5 := hB4.trans (hb5.mono hB4.size)
          have HX5 : Hid (Blk w5 X 28 [.int .i64 f.id, .int .i64 f.fr, .int .i64 f.tn, .int .i64 f.pe, .int .i64 f.ph, .int .i64 f.dl]) := Lib.hid (HX4.out.below hb5 HX4.out.lt)
          have HO5 : Hid (w5.ownsRow w2.heap.size 39 3 v2 (lateQ fs r k f n).length ((lateQ fs r k f n).flatMap Lt.row)) := Lib.hid (own_below HO4.out hb5 (Nat.le_refl _))
          clear HO4 HX4 hb5 r4 n4 C1 hB4
          by_cases hD : D1 < 0
          · have d1 : decide (D1 < 0) = true := decide_eq_true hD
            have hQ : Hid (lateQ fs r k f (n + 1) = lateQ fs r k f n ++ [⟨f.id, n, D2⟩]) := Lib.hid (by rw [lateQ_succ, HLn2.out, if_pos hD])
            obtain ⟨wd, hwd⟩ : ∃ wd, wd = w5.drew := ⟨_, rfl⟩
            have hbd : Below w5.heap.size w5 wd := by rw [hwd]; exact (Below.refl _ _).drew
            have HDZ : Hid (w5.heap.size = wd.heap.size) := Lib.hid (by rw [hwd]; rfl)
            have hBd : Below w2.heap.size w2 wd := hB5.trans (hbd.mono hB5.size)
            have HXd : Hid (Blk wd X 28 [.int .i64 f.id, .int .i64 f.fr, .int .i64 f.tn, .int .i64 f.pe, .int .i64 f.ph, .int .i64 f.dl]) := Lib.hid (HX5.out.below hbd HX5.out.lt)
            have HOd : Hid (wd.ownsRow w2.heap.size 39 3 v2 (lateQ fs r k f n).length ((lateQ fs r k f n).flatMap Lt.row)) := Lib.hid (own_below HO5.out hbd (Nat.le_refl _))
            have xY := HXd.out.row.ext (B := w5.heap.size) HX5.out.lt
            have xN := (show Row wd N [.int .i64 slots, .slice A na ca, .slice D nd cd] from (HX.out _ hBd).2.1).ext (B := w5.heap.size) (Nat.lt_of_lt_of_le hMN hB5.size)
            clear hbd
            go_upto_region 14 with fail
            refine wp_region_mixT (w5.heap.size) 19 2 #[false, false, false, false, false, false, false, false, false, false, false, false, false, false, false, false, false, false, false, false, false] (by kernel_rfl) rfl rfl ?_
            rw [← hwd]
            clear hwd
            refine anyT_take 0 _ (nth0) rfl (by kernel_rfl) (by kernel_rfl) (by kernel_rfl) (by kernel_rfl) (l' := #[true, false, false, false, false, false, false, false, false, false, false, false, false, false, false, false, false, false, false, false, false]) rfl rfl ?_; intro K hK; go_big_quiet_op; go_big_quiet_on
            refine anyT_take 1 _ (nthS (nth0)) rfl (by kernel_rfl) (by kernel_rfl) (by kernel_rfl) (by kernel_rfl) (l' := #[true, true, false, false, false, false, false, false, false, false, false, false, false, false, false, false, false, false, false, false, false]) rfl rfl ?_; intro K hK; go_big_quiet_op; go_big_quiet_on
            refine anyT_take 2 _ (nthS (nthS (nth0))) rfl (by kernel_rfl) (by kernel_rfl) (by kernel_rfl) (by kernel_rfl) (l' := #[true, true, true, false, false, false, false, false, false, false, false, false, false, false, false, false, false, false, false, false, false]) rfl rfl ?_; intro K hK; go_big_quiet_op; go_big_quiet_on
            refine anyT_take 3 _ (nthS (nthS (nthS (nth0)))) rfl (by kernel_rfl) (by kernel_rfl) (by kernel_rfl) (by kernel_rfl) (l' := #[true, true, true, true, false, false, false, false, false, false, false, false, false, false, false, false, false, false, false, false, false]) rfl rfl ?_; intro K hK; go_big_quiet_op; go_big_quiet_on
            refine anyT_take 4 _ (nthS (nthS (nthS (nthS (nth0))))) rfl (by kernel_rfl) (by kernel_rfl) (by kernel_rfl) (by kernel_rfl) (l' := #[true, true, true, true, true, false, false, false, false, false, false, false, false, false, false, false, false, false, false, false, false]) rfl rfl ?_; intro K hK; go_big_quiet_op; go_big_quiet_on
            refine anyT_take 5 _ (nthS (nthS (nthS (nthS (nthS (nth0)))))) rfl (by kernel_rfl) (by kernel_rfl) (by kernel_rfl) (by kernel_rfl) (l' := #[true, true, true, true, true, true, false, false, false, false, false, false, false, false, false, false, false, false, false, false, false]) rfl rfl ?_; intro K hK; go_big_quiet_op; go_big_quiet_on
            refine anyT_take 6 _ (nthS (nthS (nthS (nthS (nthS (nthS (nth0))))))) rfl (by kernel_rfl) (by kernel_rfl) (by kernel_rfl) (by kernel_rfl) (l' := #[true, true, true, true, true, true, true, false, false, false, false, false, false, false, false, false, false, false, false, false, false]) rfl rfl ?_; intro K hK; go_big_quiet_op; go_big_quiet_on
            refine anyT_take 7 _ (nthS (nthS (nthS (nthS (nthS (nthS (nthS (nth0)))))))) rfl (by kernel_rfl) (by kernel_rfl) (by kernel_rfl) (by kernel_rfl) (l' := #[true, true, true, true, true, true, true, true, false, false, false, false, false, false, false, false, false, false, false, false, false]) rfl rfl ?_; intro K hK; go_big_quiet_op; go_big_quiet_on
            refine anyT_take 8 _ (nthS (nthS (nthS (nthS (nthS (nthS (nthS (nthS (nth0))))))))) rfl (by kernel_rfl) (by kernel_rfl) (by kernel_rfl) (by kernel_rfl) (l' := #[true, true, true, true, true, true, true, true, true, false, false, false, false, false, false, false, false, false, false, false, false]) rfl rfl ?_; intro K hK; go_big_quiet_op; go_big_quiet_on
            refine anyT_take 9 _ (nthS (nthS (nthS (nthS (nthS (nthS (nthS (nthS (nthS (nth0)))))))))) rfl (by kernel_rfl) (by kernel_rfl) (by kernel_rfl) (by kernel_rfl) (l' := #[true, true, true, true, true, true, true, true, true, true, false, false, false, false, false, false, false, false, false, false, false]) rfl rfl ?_; intro K hK; go_big_quiet_op; go_big_quiet_on
            refine anyT_take 10 _ (nthS (nthS (nthS (nthS (nthS (nthS (nthS (nthS (nthS (nthS (nth0))))))))))) rfl (by kernel_rfl) (by kernel_rfl) (by kernel_rfl) (by kernel_rfl) (l' := #[true, true, true, true, true, true, true, true, true, true, true, false, false, false, false, false, false, false, false, false, false]) rfl rfl ?_; intro K hK; go_big_quiet_op; go_big_quiet_on
            refine anyT_take 11 _ (nthS (nthS (nthS (nthS (nthS (nthS (nthS (nthS (nthS (nthS (nthS (nth0)))))))))))) rfl (by kernel_rfl) (by kernel_rfl) (by kernel_rfl) (by kernel_rfl) (l' := #[true, true, true, true, true, true, true, true, true, true, true, true, false, false, false, false, false, false, false, false, false]) rfl rfl ?_; intro K hK; go_big_quiet_op; go_big_quiet_on
            refine anyT_take 12 _ (nthS (nthS (nthS (nthS (nthS (nthS (nthS (nthS (nthS (nthS (nthS (nthS (nth0))))))))))))) rfl (by kernel_rfl) (by kernel_rfl) (by kernel_rfl) (by kernel_rfl) (l' := #[true, true, true, true, true, true, true, true, true, true, true, true, true, false, false, false, false, false, false, false, false]) rfl rfl ?_; intro K hK; go_big_quiet_op; go_big_quiet_on
            refine anyT_take 13 _ (nthS (nthS (nthS (nthS (nthS (nthS (nthS (nthS (nthS (nthS (nthS (nthS (nthS (nth0)))))))))))))) rfl (by kernel_rfl) (by kernel_rfl) (by kernel_rfl) (by kernel_rfl) (l' := #[true, true, true, true, true, true, true, true, true, true, true, true, true, true, false, false, false, false, false, false, false]) rfl rfl ?_; intro K hK; go_big_quiet_op; go_big_quiet_on
            refine anyT_take 14 _ (nthS (nthS (nthS (nthS (nthS (nthS (nthS (nthS (nthS (nthS (nthS (nthS (nthS (nthS (nth0))))))))))))))) rfl (by kernel_rfl) (by kernel_rfl) (by kernel_rfl) (by kernel_rfl) (l' := #[true, true, true, true, true, true, true, true, true, true, true, true, true, true, true, false, false, false, false, false, false]) rfl rfl ?_; intro K hK; go_big_quiet_op; go_big_quiet_on
            refine anyT_take 15 _ (nthS (nthS (nthS (nthS (nthS (nthS (nthS (nthS (nthS (nthS (nthS (nthS (nthS (nthS (nthS (nth0)))))))))))))))) rfl (by kernel_rfl) (by kernel_rfl) (by kernel_rfl) (by kernel_rfl) (l' := #[true, true, true, true, true, true, true, true, true, true, true, true, true, true, true, true, false, false, false, false, false]) rfl rfl ?_; intro K hK; go_big_quiet_op; go_big_quiet_on
            refine anyT_one 16 _ (nthS (nthS (nthS (nthS (nthS (nthS (nthS (nthS (nthS (nthS (nthS (nthS (nthS (nthS (nthS (nthS (nth0))))))))))))))))) (by kernel_rfl) (l' := #[true, true, true, true, true, true, true, true, true, true, true, true, true, true, true, true, true, false, false, false, false]) rfl (by kernel_rfl) ?_
            go_wp2_with fail
            refine (C2.out _ hBd).mono ?_
            rintro e w6 ⟨rfl, hb6⟩
            have hz6 : w5.heap.size ≤ w6.heap.size := by rw [HDZ.out]; exact hb6.size
            clear xY xN
            go_wp2_with fail
            refine OneT_mk (hb6.mono (Nat.le_of_eq HDZ.out)) ?_
            refine anyT_take 17 _ (nthS (nthS (nthS (nthS (nthS (nthS (nthS (nthS (nthS (nthS (nthS (nthS (nthS (nthS (nthS (nthS (nthS (nth0)))))))))))))))))) rfl (by kernel_rfl) (by kernel_rfl) (by kernel_rfl) (by kernel_rfl) (l' := #[true, true, true, true, true, true, true, true, true, true, true, true, true, true, true, true, true, true, false, false, false]) rfl rfl ?_; intro K hK; go_big_quiet_op; go_big_quiet_on
            refine anyT_one 18 _ (nthS (nthS (nthS (nthS (nthS (nthS (nthS (nthS (nthS (nthS (nthS (nthS (nthS (nthS (nthS (nthS (nthS (nthS (nth0))))))))))))))))))) (by kernel_rfl) (l' := #[true, true, true, true, true, true, true, true, true, true, true, true, true, true, true, true, true, true, true, false, false]) rfl (by kernel_rfl) ?_
            go_wp2_with fail
            refine OneT_mk ((Below.refl _ _).alloc hz6 _) ?_
            refine anyT_end (by kernel_rfl) ?_
            simp only [List.drop_succ_cons, List.drop_zero]
            have hB6 : Below w2.heap.size w2 w6 := hBd.trans (hb6.mono hBd.size)
            have HX6 : Hid (Blk w6 X 28 [.int .i64 f.id, .int .i64 f.fr, .int .i64 f.tn, .int .i64 f.pe, .int .i64 f.ph, .int .i64 f.dl]) := Lib.hid (HXd.out.below hb6 (by have := HXd.out.lt; omega))
            have HO6 : Hid (w6.ownsRow w2.heap.size 39 3 v2 (lateQ fs r k f n).length ((lateQ fs r k f n).flatMap Lt.row)) := Lib.hid (own_below HOd.out hb6 (Nat.le_refl _))
            clear HO5 HX5 HXd HOd hb6 hBd hB5 d1
            have hl5 := HQl.out n hn4
            go_wp2_with (at_builtin; refine wpList_append_own_at _ rfl (.tmp 53) (.tmp 71) 117 rfl w2.heap.size 39 i0 (.agg #[.int .i64 0, .int .i64 0, .int .i64 0]) 3 24 Tryz.underlying117 hi hz0 hz1 hz2 rfl (by decide) v2 _ _ rfl (HO6.out.alloc _) ⟨w6.heap.size, 0, none⟩ 1 1 [.int .i64 f.id, .int .i64 (n : Int), .int .i64 D2] rfl rfl ?e0 ?e1 ?e2 ?e3 ?e4 ?_)
            case e0 => exact (Blk.new2 39 [.int .i64 f.id, .int .i64 (n : Int), .int .i64 D2] rfl).news2
            case e1 => intro u hu; simp only [List.mem_cons, List.not_mem_nil, or_false] at hu; rcases hu with rfl | rfl | rfl <;> rfl
            case e2 => unfold maxLen; omega
            case e3 => omega
            case e4 => simp; have := hB6.size; omega
            intro v7 w7 ho7 hg7 hnil7 hat7
            clear hnil7 hat7
            have hB61 : Below w2.heap.size w2 (w6.alloc (.cells #[.int .i64 f.id, .int .i64 (n : Int), .int .i64 D2] 39)) := hB6.alloc hB6.size _
            have hB7 : Below w2.heap.size w2 w7 := hB61.grown hg7 hB61.size (fun j hj => (HO6.out.lt j hj).1)
            have HX7 : Hid (Blk w7 X 28 [.int .i64 f.id, .int .i64 f.fr, .int .i64 f.tn, .int .i64 f.pe, .int .i64 f.ph, .int .i64 f.dl]) := Lib.hid ((hg7.block X (by have := HX6.out.lt; simp; omega) (fun e => by have := own_type2 HO6.out e HX6.out; revert this; decide)).trans (HX6.out.alloc _))
            have HO7 : Hid (w7.ownsRow w2.heap.size 39 3 v7 (lateQ fs r k f (n + 1)).length ((lateQ fs r k f (n + 1)).flatMap Lt.row)) := Lib.hid (by rw [hQ.out]; simpa [Mo.Lt.row] using ho7)
            obtain ⟨A7, c7, hv7⟩ := own_form2 ho7
            clear ho7 hg7 hB61 hl5
            subst hv7
            go_wp2_with fail
            refine NoPanic.normal ?_
            go_wp2_with fail
            go_roundw
            case rel => exact ⟨n + 1, _, rfl, by omega, by go_num, hB7, HX7, HO7⟩
            case measure => simp [intOf]; omega
          · have d1 : decide (D1 < 0) = false := decide_eq_false hD
            have HO7 : Hid (w5.ownsRow w2.heap.size 39 3 v2 (lateQ fs r k f (n + 1)).length ((lateQ fs r k f (n + 1)).flatMap Lt.row)) := Lib.hid (by rw [lateQ_succ, HLn2.out, if_neg hD, List.append_nil]; exact HO5.out)
            go_wp2_with fail
            go_roundw
            case rel => exact ⟨n + 1, v2, rfl, by omega, by go_num, hB5, HX5, HO7⟩
            case measure => simp [intOf]; omega
        · have d0 : decide (R + f.dl ≤ slots) = false := decide_eq_false (fun h => hlt2 (HCn.out.1 h))
          rw [d0]
          have h1 : n = cn := by omega
          subst h1
          have HOn : Hid (w3.ownsRow w2.heap.size 39 3 v2 ((fs.take (k + 1)).flatMap (fun f => lateF f r)).length (((fs.take (k + 1)).flatMap (fun f => lateF f r)).flatMap Lt.row)) := Lib.hid (by rw [← lateQ_end HFk.out, ← HCN.out]; exact HO3.out)
          go_wp2_with fail
          go_roundw
          case rel => exact ⟨k + 1, v2, rfl, by omega, by go_num, hB3, HOn⟩
          case measure => simp [intOf]; omega
    · have h1 : k = m := by omega
      subst h1
      have hto : fs.take k = fs := List.take_of_length_le (by rw [← HM.out]; exact Nat.le_refl _)
      rw [hto] at HO
      obtain ⟨A7, c7, hv7⟩ := own_form2 HO.out
      subst hv7
      go_wp2_with fail
      go_ret2
      exact ⟨(HX.out _ hb).1, _, by rw [hl.out]; rfl, by rw [hl.out]; exact own_base HO.out (HX.out _ (Below.refl _ _)).1.size⟩
end Go.Proofs.YticnppnejafhdaaGreatDoor
/- Abstract data: records, flows, late frames. -/
namespace Go.Proofs.YticnppnejafhdaaGreatDoor
open Go.RowKit
open Nd Rc Mo
open Av
set_option maxRecDepth 100000
set_option linter.unusedSimpArgs false

abbrev iv (n : Int) : AV := .v (.int .i64 n)
abbrev ip (n : Int) : PV := .v (.int .i64 n)
abbrev bv (b : Bool) : AV := .v (.bool b)
def Rc.Att.pv (a : Att) : List PV := [ip a.s, ip a.f, ip a.cs, ip a.co, ip a.cf, ip a.ct, ip a.cl, ip a.o]
def Rc.Dlv.pv (d : Dlv) : List PV := [ip d.fl, ip d.fr, ip d.sl]
def Nd.Fl.pv (f : Fl) : List PV := [ip f.id, ip f.fr, ip f.tn, ip f.pe, ip f.ph, ip f.dl]
def Mo.Lt.pv (x : Lt) : List PV := [ip x.fl, ip x.fr, ip x.sl]
def Rc.Rec.pv (r : Rec) : List PV := [ip r.slots, .sl 8 (r.al.map Att.pv), .sl 3 (r.dl.map Dlv.pv)]
theorem map_pv {α : Type} {f : α → List PV} {g : α → List Value} (h : ∀ x, f x = (g x).map PV.v) (l : List α) : l.map f = (l.map g).map fun row => row.map PV.v := by
  rw [List.map_map]
  exact List.map_congr_left fun x _ => h x
theorem att_pv (l : List Att) : l.map Att.pv = (l.map Att.row).map fun row => row.map PV.v := map_pv (f := Att.pv) (g := Att.row) (fun _ => rfl) l
theorem dlv_pv (l : List Dlv) : l.map Dlv.pv = (l.map Dlv.row).map fun row => row.map PV.v := map_pv (f := Dlv.pv) (g := Dlv.row) (fun _ => rfl) l
theorem fl_pv (l : List Fl) : l.map Fl.pv = (l.map Fl.row).map fun row => row.map PV.v := map_pv (f := Fl.pv) (g := Fl.row) (fun _ => rfl) l
theorem lt_pv (l : List Lt) : l.map Lt.pv = (l.map Lt.row).map fun row => row.map PV.v := map_pv (f := Lt.pv) (g := Lt.row) (fun _ => rfl) l
theorem rec_rep {w : World} {R : Reader} {bx : Nat → Nat} {r : Rec} {u : Value} (hR : ∀ p v, R p = some v → w.cell? p = some v) (h : RepA R bx (.agg r.pv) u) :
    ∃ A D ca cd, u = .agg #[.int .i64 r.slots, .slice A r.al.length ca, .slice D r.dl.length cd] ∧ LiesA w w.heap.size A r.al ∧ LiesD w w.heap.size D r.dl := by
  obtain ⟨us, rfl, h⟩ := h
  cases h with
  | cons h1 h =>
    cases h with
    | cons h2 h =>
      cases h with
      | cons h3 h =>
        cases h
        cases h1
        rw [att_pv] at h2
        rw [dlv_pv] at h3
        obtain ⟨A, ca, rfl, hA⟩ := lies_of_rep hR (by decide) h2
        obtain ⟨D, cd, rfl, hD⟩ := lies_of_rep hR (by decide) h3
        rw [List.length_map, List.length_map]
        exact ⟨A, D, ca, cd, rfl, hA, hD⟩
theorem fls_rep {w : World} {R : Reader} {bx : Nat → Nat} {fs : List Fl} {u : Value} (hR : ∀ p v, R p = some v → w.cell? p = some v) (h : RepA R bx (.sl 6 (fs.map Fl.pv)) u) :
    ∃ A c, u = .slice A fs.length c ∧ Lies w w.heap.size 6 A (fs.map Fl.row) := by
  have h' : RepP R (.sl 6 (fs.map Fl.pv)) u := h
  rw [fl_pv] at h'
  obtain ⟨A, c, rfl, hA⟩ := lies_of_rep hR (by decide) h'
  rw [List.length_map]
  exact ⟨A, c, rfl, hA⟩
theorem fl_rep {R : Reader} {bx : Nat → Nat} {f : Fl} {u : Value} (h : RepA R bx (.agg f.pv) u) : u = .agg #[.int .i64 f.id, .int .i64 f.fr, .int .i64 f.tn, .int .i64 f.pe, .int .i64 f.ph, .int .i64 f.dl] := by
  obtain ⟨us, rfl, h⟩ := h
  rw [show f.pv = [.int .i64 f.id, .int .i64 f.fr, .int .i64 f.tn, .int .i64 f.pe, .int .i64 f.ph, .int .i64 f.dl].map PV.v from rfl] at h
  rw [rep_vs h]
/-- A result that is a value, or values. -/
theorem res_v {R : Reader} {w w' : World} {x : Value} : ResRep R w w' ⟨.v x, none⟩ x := ⟨rfl, rfl⟩
theorem res_vv {R : Reader} {w w' : World} {x y : Value} (hx : x.oneCell' = true) (hy : y.oneCell' = true) : ResRep R w w' ⟨.tup [.c (.v x), .c (.v y)], none⟩ (.tuple #[x, y]) := ⟨rfl, [x, y], rfl, .cons (.c (.v x hx)) (.cons (.c (.v y hy)) .nil)⟩
theorem res_rows {R : Reader} {w w' : World} {e : TypeId} {sz : Nat} {v : Value} {xs : List (List Value)} {n : Int} (hs : 0 < sz) (h : w'.ownsRow w.heap.size e sz v xs.length xs.flatten) (hl : ∀ row ∈ xs, row.length = sz) (h1 : ∀ row ∈ xs, ∀ x ∈ row, x.oneCell' = true) :
    ResRep R w w' ⟨.tup [.c (.sl sz (xs.map fun row => row.map PV.v)), .c (ip n)], none⟩ (.tuple #[v, .int .i64 n]) := by
  obtain ⟨q, _, h2⟩ := owns_rep (R := R) hs h hl h1
  have h3 := h2 none (.inl rfl)
  refine ⟨rfl, [v, .int .i64 n], rfl, .cons (.c (h3.mono fun p y hp => ?_)) (.cons (.c (.v _ rfl)) .nil)⟩
  unfold fresh at hp ⊢
  split at hp
  · rename_i hb; rw [if_pos hb]; exact hp
  · rename_i hb
    rw [if_neg hb, if_neg (by rintro ⟨h4, _⟩; cases h4)]
    split at hp
    · cases hp
    · exact hp
end Go.Proofs.YticnppnejafhdaaGreatDoor
/- Sizes and zero values of types. -/
namespace Go.Proofs.YticnppnejafhdaaGreatDoor
open Go.RowKit
open Nd Rc Mo
open Av
set_option maxRecDepth 100000
set_option linter.unusedSimpArgs false
theorem all_arr {α : Type} {l : List α} {p : α → Bool} {n : Nat} (h : n = l.length) : l.toArray.all p 0 n = l.all p := by subst h; simp
theorem loc_ss (a b : Nat) : (Loc.s a == Loc.s b) = (a == b) := by rw [Bool.eq_iff_iff, beq_iff_eq, beq_iff_eq, Loc.s.injEq]
theorem loc_sb (a b c : Nat) : (Loc.s a == Loc.b b c) = false := by rw [beq_eq_false_iff_ne]; exact fun h => by cases h
theorem loc_bs (a b c : Nat) : (Loc.b b c == Loc.s a) = false := by rw [beq_eq_false_iff_ne]; exact fun h => by cases h
theorem loc_bb (a b c d : Nat) : (Loc.b a b == Loc.b c d) = (a == c && b == d) := by rw [Bool.eq_iff_iff, Bool.and_eq_true, beq_iff_eq, beq_iff_eq, beq_iff_eq, Loc.b.injEq]
theorem arr_two {α : Type} (a b c : α) : ((#[a, b] : Array α) = #[c]) = False := eq_false fun h => by have := congrArg Array.size h; simp at this
theorem rg1 : List.range 1 = [0] := by decide
theorem rg2 : List.range 2 = [0, 1] := by decide
theorem rg3 : List.range 3 = [0, 1, 2] := by decide
theorem rg4 : List.range 4 = [0, 1, 2, 3] := by decide
theorem rg5 : List.range 5 = [0, 1, 2, 3, 4] := by decide
theorem rg6 : List.range 6 = [0, 1, 2, 3, 4, 5] := by decide
theorem rg7 : List.range 7 = [0, 1, 2, 3, 4, 5, 6] := by decide
theorem rg8 : List.range 8 = [0, 1, 2, 3, 4, 5, 6, 7] := by decide
theorem arr_one {α : Type} (a b : α) : ((#[a] : Array α) = #[b]) = (a = b) := by simp
theorem Tryz.sz3 : (Tryz.prog.info? 3).map (·.size) = some 1 := by kernel_rfl
theorem Tryz.zr3 : (Tryz.prog.info? 3).map (·.zero) = some (some (.int .i64 0)) := by kernel_rfl
theorem Tryz.pl3 (k : Nat) : (Tryz.prog.info? 3).map (fun t => (k, t.size)) = some (k, 1) := by
  have h := Tryz.sz3
  cases hi : Tryz.prog.info? 3 with
  | none => rw [hi] at h; cases h
  | some i => rw [hi] at h; simp only [Option.map_some, Option.some.injEq] at h ⊢; rw [h]
theorem Tryz.is3 : (Tryz.prog.info? 3).isSome = true := by kernel_rfl
theorem Tryz.by3 : (Tryz.prog.info? 3).map (fun j => decide (j.bytes ≤ 1000000)) = some true := by kernel_rfl
theorem Tryz.sz4 : (Tryz.prog.info? 4).map (·.size) = some 1 := by kernel_rfl
theorem Tryz.zr4 : (Tryz.prog.info? 4).map (·.zero) = some (some (.bool false)) := by kernel_rfl
theorem Tryz.pl4 (k : Nat) : (Tryz.prog.info? 4).map (fun t => (k, t.size)) = some (k, 1) := by
  have h := Tryz.sz4
  cases hi : Tryz.prog.info? 4 with
  | none => rw [hi] at h; cases h
  | some i => rw [hi] at h; simp only [Option.map_some, Option.some.injEq] at h ⊢; rw [h]
theorem Tryz.is4 : (Tryz.prog.info? 4).isSome = true := by kernel_rfl
theorem Tryz.by4 : (Tryz.prog.info? 4).map (fun j => decide (j.bytes ≤ 1000000)) = some true := by kernel_rfl
theorem Tryz.sz43 : (Tryz.prog.info? 43).map (·.size) = some 1 := by kernel_rfl
theorem Tryz.zr43 : (Tryz.prog.info? 43).map (·.zero) = some (some (.int .i64 0)) := by kernel_rfl
theorem Tryz.pl43 (k : Nat) : (Tryz.prog.info? 43).map (fun t => (k, t.size)) = some (k, 1) := by
  have h := Tryz.sz43
  cases hi : Tryz.prog.info? 43 with
  | none => rw [hi] at h; cases h
  | some i => rw [hi] at h; simp only [Option.map_some, Option.some.injEq] at h ⊢; rw [h]
theorem Tryz.is43 : (Tryz.prog.info? 43).isSome = true := by kernel_rfl
theorem Tryz.by43 : (Tryz.prog.info? 43).map (fun j => decide (j.bytes ≤ 1000000)) = some true := by kernel_rfl
theorem Tryz.sz35 : (Tryz.prog.info? 35).map (·.size) = some 3 := by kernel_rfl
theorem Tryz.zr35 : (Tryz.prog.info? 35).map (·.zero) = some (some (.agg #[.int .i64 0, .slice none 0 0, .slice none 0 0])) := by kernel_rfl
theorem Tryz.pl35 (k : Nat) : (Tryz.prog.info? 35).map (fun t => (k, t.size)) = some (k, 3) := by
  have h := Tryz.sz35
  cases hi : Tryz.prog.info? 35 with
  | none => rw [hi] at h; cases h
  | some i => rw [hi] at h; simp only [Option.map_some, Option.some.injEq] at h ⊢; rw [h]
theorem Tryz.is35 : (Tryz.prog.info? 35).isSome = true := by kernel_rfl
theorem Tryz.by35 : (Tryz.prog.info? 35).map (fun j => decide (j.bytes ≤ 1000000)) = some true := by kernel_rfl
theorem Tryz.sz33 : (Tryz.prog.info? 33).map (·.size) = some 2 := by kernel_rfl
theorem Tryz.zr33 : (Tryz.prog.info? 33).map (·.zero) = some (some (.agg #[.slice none 0 0, .slice none 0 0])) := by kernel_rfl
theorem Tryz.pl33 (k : Nat) : (Tryz.prog.info? 33).map (fun t => (k, t.size)) = some (k, 2) := by
  have h := Tryz.sz33
  cases hi : Tryz.prog.info? 33 with
  | none => rw [hi] at h; cases h
  | some i => rw [hi] at h; simp only [Option.map_some, Option.some.injEq] at h ⊢; rw [h]
theorem Tryz.is33 : (Tryz.prog.info? 33).isSome = true := by kernel_rfl
theorem Tryz.by33 : (Tryz.prog.info? 33).map (fun j => decide (j.bytes ≤ 1000000)) = some true := by kernel_rfl
theorem Tryz.sz28 : (Tryz.prog.info? 28).map (·.size) = some 6 := by kernel_rfl
theorem Tryz.zr28 : (Tryz.prog.info? 28).map (·.zero) = some (some (.agg #[.int .i64 0, .int .i64 0, .int .i64 0, .int .i64 0, .int .i64 0, .int .i64 0])) := by kernel_rfl
theorem Tryz.pl28 (k : Nat) : (Tryz.prog.info? 28).map (fun t => (k, t.size)) = some (k, 6) := by
  have h := Tryz.sz28
  cases hi : Tryz.prog.info? 28 with
  | none => rw [hi] at h; cases h
  | some i => rw [hi] at h; simp only [Option.map_some, Option.some.injEq] at h ⊢; rw [h]
theorem Tryz.is28 : (Tryz.prog.info? 28).isSome = true := by kernel_rfl
theorem Tryz.by28 : (Tryz.prog.info? 28).map (fun j => decide (j.bytes ≤ 1000000)) = some true := by kernel_rfl
theorem Tryz.sz39 : (Tryz.prog.info? 39).map (·.size) = some 3 := by kernel_rfl
theorem Tryz.zr39 : (Tryz.prog.info? 39).map (·.zero) = some (some (.agg #[.int .i64 0, .int .i64 0, .int .i64 0])) := by kernel_rfl
theorem Tryz.pl39 (k : Nat) : (Tryz.prog.info? 39).map (fun t => (k, t.size)) = some (k, 3) := by
  have h := Tryz.sz39
  cases hi : Tryz.prog.info? 39 with
  | none => rw [hi] at h; cases h
  | some i => rw [hi] at h; simp only [Option.map_some, Option.some.injEq] at h ⊢; rw [h]
theorem Tryz.is39 : (Tryz.prog.info? 39).isSome = true := by kernel_rfl
theorem Tryz.by39 : (Tryz.prog.info? 39).map (fun j => decide (j.bytes ≤ 1000000)) = some true := by kernel_rfl
theorem Tryz.sz57 : (Tryz.prog.info? 57).map (·.size) = some 5 := by kernel_rfl
theorem Tryz.zr57 : (Tryz.prog.info? 57).map (·.zero) = some (some (.agg #[.int .i64 0, .int .i64 0, .int .i64 0, .int .i64 0, .slice none 0 0])) := by kernel_rfl
theorem Tryz.pl57 (k : Nat) : (Tryz.prog.info? 57).map (fun t => (k, t.size)) = some (k, 5) := by
  have h := Tryz.sz57
  cases hi : Tryz.prog.info? 57 with
  | none => rw [hi] at h; cases h
  | some i => rw [hi] at h; simp only [Option.map_some, Option.some.injEq] at h ⊢; rw [h]
theorem Tryz.is57 : (Tryz.prog.info? 57).isSome = true := by kernel_rfl
theorem Tryz.by57 : (Tryz.prog.info? 57).map (fun j => decide (j.bytes ≤ 1000000)) = some true := by kernel_rfl
theorem Tryz.sz137 : (Tryz.prog.info? 137).map (·.size) = some 3 := by kernel_rfl
theorem Tryz.zr137 : (Tryz.prog.info? 137).map (·.zero) = some (some (.agg #[.int .i64 0, .int .i64 0, .int .i64 0])) := by kernel_rfl
theorem Tryz.pl137 (k : Nat) : (Tryz.prog.info? 137).map (fun t => (k, t.size)) = some (k, 3) := by
  have h := Tryz.sz137
  cases hi : Tryz.prog.info? 137 with
  | none => rw [hi] at h; cases h
  | some i => rw [hi] at h; simp only [Option.map_some, Option.some.injEq] at h ⊢; rw [h]
theorem Tryz.is137 : (Tryz.prog.info? 137).isSome = true := by kernel_rfl
theorem Tryz.by137 : (Tryz.prog.info? 137).map (fun j => decide (j.bytes ≤ 1000000)) = some true := by kernel_rfl
theorem Tryz.sz66 : (Tryz.prog.info? 66).map (·.size) = some 8 := by kernel_rfl
theorem Tryz.zr66 : (Tryz.prog.info? 66).map (·.zero) = some (some (.agg #[.int .i64 0, .int .i64 0, .int .i64 0, .int .i64 0, .int .i64 0, .int .i64 0, .int .i64 0, .int .i64 0])) := by kernel_rfl
theorem Tryz.pl66 (k : Nat) : (Tryz.prog.info? 66).map (fun t => (k, t.size)) = some (k, 8) := by
  have h := Tryz.sz66
  cases hi : Tryz.prog.info? 66 with
  | none => rw [hi] at h; cases h
  | some i => rw [hi] at h; simp only [Option.map_some, Option.some.injEq] at h ⊢; rw [h]
theorem Tryz.is66 : (Tryz.prog.info? 66).isSome = true := by kernel_rfl
theorem Tryz.by66 : (Tryz.prog.info? 66).map (fun j => decide (j.bytes ≤ 1000000)) = some true := by kernel_rfl
theorem Tryz.sz64 : (Tryz.prog.info? 64).map (·.size) = some 5 := by kernel_rfl
theorem Tryz.zr64 : (Tryz.prog.info? 64).map (·.zero) = some (some (.agg #[.int .i64 0, .int .i64 0, .int .i64 0, .int .i64 0, .int .i64 0])) := by kernel_rfl
theorem Tryz.pl64 (k : Nat) : (Tryz.prog.info? 64).map (fun t => (k, t.size)) = some (k, 5) := by
  have h := Tryz.sz64
  cases hi : Tryz.prog.info? 64 with
  | none => rw [hi] at h; cases h
  | some i => rw [hi] at h; simp only [Option.map_some, Option.some.injEq] at h ⊢; rw [h]
theorem Tryz.is64 : (Tryz.prog.info? 64).isSome = true := by kernel_rfl
theorem Tryz.by64 : (Tryz.prog.info? 64).map (fun j => decide (j.bytes ≤ 1000000)) = some true := by kernel_rfl
theorem Tryz.sz60 : (Tryz.prog.info? 60).map (·.size) = some 3 := by kernel_rfl
theorem Tryz.zr60 : (Tryz.prog.info? 60).map (·.zero) = some (some (.agg #[.int .i64 0, .int .i64 0, .int .i64 0])) := by kernel_rfl
theorem Tryz.pl60 (k : Nat) : (Tryz.prog.info? 60).map (fun t => (k, t.size)) = some (k, 3) := by
  have h := Tryz.sz60
  cases hi : Tryz.prog.info? 60 with
  | none => rw [hi] at h; cases h
  | some i => rw [hi] at h; simp only [Option.map_some, Option.some.injEq] at h ⊢; rw [h]
theorem Tryz.is60 : (Tryz.prog.info? 60).isSome = true := by kernel_rfl
theorem Tryz.by60 : (Tryz.prog.info? 60).map (fun j => decide (j.bytes ≤ 1000000)) = some true := by kernel_rfl
theorem Tryz.sz100 : (Tryz.prog.info? 100).map (·.size) = some 2 := by kernel_rfl
theorem Tryz.zr100 : (Tryz.prog.info? 100).map (·.zero) = some (some (.agg #[.int .i64 0, .int .i64 0])) := by kernel_rfl
theorem Tryz.pl100 (k : Nat) : (Tryz.prog.info? 100).map (fun t => (k, t.size)) = some (k, 2) := by
  have h := Tryz.sz100
  cases hi : Tryz.prog.info? 100 with
  | none => rw [hi] at h; cases h
  | some i => rw [hi] at h; simp only [Option.map_some, Option.some.injEq] at h ⊢; rw [h]
theorem Tryz.is100 : (Tryz.prog.info? 100).isSome = true := by kernel_rfl
theorem Tryz.by100 : (Tryz.prog.info? 100).map (fun j => decide (j.bytes ≤ 1000000)) = some true := by kernel_rfl
theorem Tryz.sz103 : (Tryz.prog.info? 103).map (·.size) = some 4 := by kernel_rfl
theorem Tryz.zr103 : (Tryz.prog.info? 103).map (·.zero) = some (some (.agg #[.int .i64 0, .int .i64 0, .int .i64 0, .int .i64 0])) := by kernel_rfl
theorem Tryz.pl103 (k : Nat) : (Tryz.prog.info? 103).map (fun t => (k, t.size)) = some (k, 4) := by
  have h := Tryz.sz103
  cases hi : Tryz.prog.info? 103 with
  | none => rw [hi] at h; cases h
  | some i => rw [hi] at h; simp only [Option.map_some, Option.some.injEq] at h ⊢; rw [h]
theorem Tryz.is103 : (Tryz.prog.info? 103).isSome = true := by kernel_rfl
theorem Tryz.by103 : (Tryz.prog.info? 103).map (fun j => decide (j.bytes ≤ 1000000)) = some true := by kernel_rfl
theorem Tryz.sz26 : (Tryz.prog.info? 26).map (·.size) = some 6 := by kernel_rfl
theorem Tryz.zr26 : (Tryz.prog.info? 26).map (·.zero) = some (some (.agg #[.int .i64 0, .slice none 0 0, .int .i64 0, .int .i64 0, .slice none 0 0, .slice none 0 0])) := by kernel_rfl
theorem Tryz.pl26 (k : Nat) : (Tryz.prog.info? 26).map (fun t => (k, t.size)) = some (k, 6) := by
  have h := Tryz.sz26
  cases hi : Tryz.prog.info? 26 with
  | none => rw [hi] at h; cases h
  | some i => rw [hi] at h; simp only [Option.map_some, Option.some.injEq] at h ⊢; rw [h]
theorem Tryz.is26 : (Tryz.prog.info? 26).isSome = true := by kernel_rfl
theorem Tryz.by26 : (Tryz.prog.info? 26).map (fun j => decide (j.bytes ≤ 1000000)) = some true := by kernel_rfl
theorem Tryz.sz120 : (Tryz.prog.info? 120).map (·.size) = some 1 := by kernel_rfl
theorem Tryz.zr120 : (Tryz.prog.info? 120).map (·.zero) = some (some (.slice none 0 0)) := by kernel_rfl
theorem Tryz.pl120 (k : Nat) : (Tryz.prog.info? 120).map (fun t => (k, t.size)) = some (k, 1) := by
  have h := Tryz.sz120
  cases hi : Tryz.prog.info? 120 with
  | none => rw [hi] at h; cases h
  | some i => rw [hi] at h; simp only [Option.map_some, Option.some.injEq] at h ⊢; rw [h]
theorem Tryz.is120 : (Tryz.prog.info? 120).isSome = true := by kernel_rfl
theorem Tryz.by120 : (Tryz.prog.info? 120).map (fun j => decide (j.bytes ≤ 1000000)) = some true := by kernel_rfl
theorem Tryz.sz117 : (Tryz.prog.info? 117).map (·.size) = some 1 := by kernel_rfl
theorem Tryz.zr117 : (Tryz.prog.info? 117).map (·.zero) = some (some (.slice none 0 0)) := by kernel_rfl
theorem Tryz.pl117 (k : Nat) : (Tryz.prog.info? 117).map (fun t => (k, t.size)) = some (k, 1) := by
  have h := Tryz.sz117
  cases hi : Tryz.prog.info? 117 with
  | none => rw [hi] at h; cases h
  | some i => rw [hi] at h; simp only [Option.map_some, Option.some.injEq] at h ⊢; rw [h]
theorem Tryz.is117 : (Tryz.prog.info? 117).isSome = true := by kernel_rfl
theorem Tryz.by117 : (Tryz.prog.info? 117).map (fun j => decide (j.bytes ≤ 1000000)) = some true := by kernel_rfl
theorem Tryz.sz30 : (Tryz.prog.info? 30).map (·.size) = some 1 := by kernel_rfl
theorem Tryz.zr30 : (Tryz.prog.info? 30).map (·.zero) = some (some (.slice none 0 0)) := by kernel_rfl
theorem Tryz.pl30 (k : Nat) : (Tryz.prog.info? 30).map (fun t => (k, t.size)) = some (k, 1) := by
  have h := Tryz.sz30
  cases hi : Tryz.prog.info? 30 with
  | none => rw [hi] at h; cases h
  | some i => rw [hi] at h; simp only [Option.map_some, Option.some.injEq] at h ⊢; rw [h]
theorem Tryz.is30 : (Tryz.prog.info? 30).isSome = true := by kernel_rfl
theorem Tryz.by30 : (Tryz.prog.info? 30).map (fun j => decide (j.bytes ≤ 1000000)) = some true := by kernel_rfl
theorem Tryz.sz31 : (Tryz.prog.info? 31).map (·.size) = some 1 := by kernel_rfl
theorem Tryz.zr31 : (Tryz.prog.info? 31).map (·.zero) = some (some (.slice none 0 0)) := by kernel_rfl
theorem Tryz.pl31 (k : Nat) : (Tryz.prog.info? 31).map (fun t => (k, t.size)) = some (k, 1) := by
  have h := Tryz.sz31
  cases hi : Tryz.prog.info? 31 with
  | none => rw [hi] at h; cases h
  | some i => rw [hi] at h; simp only [Option.map_some, Option.some.injEq] at h ⊢; rw [h]
theorem Tryz.is31 : (Tryz.prog.info? 31).isSome = true := by kernel_rfl
theorem Tryz.by31 : (Tryz.prog.info? 31).map (fun j => decide (j.bytes ≤ 1000000)) = some true := by kernel_rfl
theorem Tryz.sz40 : (Tryz.prog.info? 40).map (·.size) = some 1 := by kernel_rfl
theorem Tryz.zr40 : (Tryz.prog.info? 40).map (·.zero) = some (some (.slice none 0 0)) := by kernel_rfl
theorem Tryz.pl40 (k : Nat) : (Tryz.prog.info? 40).map (fun t => (k, t.size)) = some (k, 1) := by
  have h := Tryz.sz40
  cases hi : Tryz.prog.info? 40 with
  | none => rw [hi] at h; cases h
  | some i => rw [hi] at h; simp only [Option.map_some, Option.some.injEq] at h ⊢; rw [h]
theorem Tryz.is40 : (Tryz.prog.info? 40).isSome = true := by kernel_rfl
theorem Tryz.by40 : (Tryz.prog.info? 40).map (fun j => decide (j.bytes ≤ 1000000)) = some true := by kernel_rfl
theorem Tryz.sz23 : (Tryz.prog.info? 23).map (·.size) = some 1 := by kernel_rfl
theorem Tryz.zr23 : (Tryz.prog.info? 23).map (·.zero) = some (some (.slice none 0 0)) := by kernel_rfl
theorem Tryz.pl23 (k : Nat) : (Tryz.prog.info? 23).map (fun t => (k, t.size)) = some (k, 1) := by
  have h := Tryz.sz23
  cases hi : Tryz.prog.info? 23 with
  | none => rw [hi] at h; cases h
  | some i => rw [hi] at h; simp only [Option.map_some, Option.some.injEq] at h ⊢; rw [h]
theorem Tryz.is23 : (Tryz.prog.info? 23).isSome = true := by kernel_rfl
theorem Tryz.by23 : (Tryz.prog.info? 23).map (fun j => decide (j.bytes ≤ 1000000)) = some true := by kernel_rfl
theorem Tryz.sz24 : (Tryz.prog.info? 24).map (·.size) = some 1 := by kernel_rfl
theorem Tryz.zr24 : (Tryz.prog.info? 24).map (·.zero) = some (some (.slice none 0 0)) := by kernel_rfl
theorem Tryz.pl24 (k : Nat) : (Tryz.prog.info? 24).map (fun t => (k, t.size)) = some (k, 1) := by
  have h := Tryz.sz24
  cases hi : Tryz.prog.info? 24 with
  | none => rw [hi] at h; cases h
  | some i => rw [hi] at h; simp only [Option.map_some, Option.some.injEq] at h ⊢; rw [h]
theorem Tryz.is24 : (Tryz.prog.info? 24).isSome = true := by kernel_rfl
theorem Tryz.by24 : (Tryz.prog.info? 24).map (fun j => decide (j.bytes ≤ 1000000)) = some true := by kernel_rfl
theorem Tryz.sz22 : (Tryz.prog.info? 22).map (·.size) = some 1 := by kernel_rfl
theorem Tryz.zr22 : (Tryz.prog.info? 22).map (·.zero) = some (some (.slice none 0 0)) := by kernel_rfl
theorem Tryz.pl22 (k : Nat) : (Tryz.prog.info? 22).map (fun t => (k, t.size)) = some (k, 1) := by
  have h := Tryz.sz22
  cases hi : Tryz.prog.info? 22 with
  | none => rw [hi] at h; cases h
  | some i => rw [hi] at h; simp only [Option.map_some, Option.some.injEq] at h ⊢; rw [h]
theorem Tryz.is22 : (Tryz.prog.info? 22).isSome = true := by kernel_rfl
theorem Tryz.by22 : (Tryz.prog.info? 22).map (fun j => decide (j.bytes ≤ 1000000)) = some true := by kernel_rfl
theorem Tryz.sz141 : (Tryz.prog.info? 141).map (·.size) = some 1 := by kernel_rfl
theorem Tryz.zr141 : (Tryz.prog.info? 141).map (·.zero) = some (some (.int .u64 0)) := by kernel_rfl
theorem Tryz.pl141 (k : Nat) : (Tryz.prog.info? 141).map (fun t => (k, t.size)) = some (k, 1) := by
  have h := Tryz.sz141
  cases hi : Tryz.prog.info? 141 with
  | none => rw [hi] at h; cases h
  | some i => rw [hi] at h; simp only [Option.map_some, Option.some.injEq] at h ⊢; rw [h]
theorem Tryz.is141 : (Tryz.prog.info? 141).isSome = true := by kernel_rfl
theorem Tryz.by141 : (Tryz.prog.info? 141).map (fun j => decide (j.bytes ≤ 1000000)) = some true := by kernel_rfl
theorem Tryz.sz42 : (Tryz.prog.info? 42).map (·.size) = some 4 := by kernel_rfl
theorem Tryz.zr42 : (Tryz.prog.info? 42).map (·.zero) = some (some (.agg #[.int .i64 0, .int .i64 0, .int .i64 0, .slice none 0 0])) := by kernel_rfl
theorem Tryz.pl42 (k : Nat) : (Tryz.prog.info? 42).map (fun t => (k, t.size)) = some (k, 4) := by
  have h := Tryz.sz42
  cases hi : Tryz.prog.info? 42 with
  | none => rw [hi] at h; cases h
  | some i => rw [hi] at h; simp only [Option.map_some, Option.some.injEq] at h ⊢; rw [h]
theorem Tryz.is42 : (Tryz.prog.info? 42).isSome = true := by kernel_rfl
theorem Tryz.by42 : (Tryz.prog.info? 42).map (fun j => decide (j.bytes ≤ 1000000)) = some true := by kernel_rfl
theorem Tryz.sz29 : (Tryz.prog.info? 29).map (·.size) = some 1 := by kernel_rfl
theorem Tryz.zr29 : (Tryz.prog.info? 29).map (·.zero) = some (some (.slice none 0 0)) := by kernel_rfl
theorem Tryz.pl29 (k : Nat) : (Tryz.prog.info? 29).map (fun t => (k, t.size)) = some (k, 1) := by
  have h := Tryz.sz29
  cases hi : Tryz.prog.info? 29 with
  | none => rw [hi] at h; cases h
  | some i => rw [hi] at h; simp only [Option.map_some, Option.some.injEq] at h ⊢; rw [h]
theorem Tryz.is29 : (Tryz.prog.info? 29).isSome = true := by kernel_rfl
theorem Tryz.by29 : (Tryz.prog.info? 29).map (fun j => decide (j.bytes ≤ 1000000)) = some true := by kernel_rfl
theorem Tryz.sz83 : (Tryz.prog.info? 83).map (·.size) = some 1 := by kernel_rfl
theorem Tryz.zr83 : (Tryz.prog.info? 83).map (·.zero) = some (some (.slice none 0 0)) := by kernel_rfl
theorem Tryz.pl83 (k : Nat) : (Tryz.prog.info? 83).map (fun t => (k, t.size)) = some (k, 1) := by
  have h := Tryz.sz83
  cases hi : Tryz.prog.info? 83 with
  | none => rw [hi] at h; cases h
  | some i => rw [hi] at h; simp only [Option.map_some, Option.some.injEq] at h ⊢; rw [h]
theorem Tryz.is83 : (Tryz.prog.info? 83).isSome = true := by kernel_rfl
theorem Tryz.by83 : (Tryz.prog.info? 83).map (fun j => decide (j.bytes ≤ 1000000)) = some true := by kernel_rfl
theorem Tryz.sz67 : (Tryz.prog.info? 67).map (·.size) = some 1 := by kernel_rfl
theorem Tryz.zr67 : (Tryz.prog.info? 67).map (·.zero) = some (some (.nilFunc)) := by kernel_rfl
theorem Tryz.pl67 (k : Nat) : (Tryz.prog.info? 67).map (fun t => (k, t.size)) = some (k, 1) := by
  have h := Tryz.sz67
  cases hi : Tryz.prog.info? 67 with
  | none => rw [hi] at h; cases h
  | some i => rw [hi] at h; simp only [Option.map_some, Option.some.injEq] at h ⊢; rw [h]
theorem Tryz.is67 : (Tryz.prog.info? 67).isSome = true := by kernel_rfl
theorem Tryz.by67 : (Tryz.prog.info? 67).map (fun j => decide (j.bytes ≤ 1000000)) = some true := by kernel_rfl
theorem Tryz.sz20 : (Tryz.prog.info? 20).map (·.size) = some 1 := by kernel_rfl
theorem Tryz.zr20 : (Tryz.prog.info? 20).map (·.zero) = some (some (.nilIface)) := by kernel_rfl
theorem Tryz.pl20 (k : Nat) : (Tryz.prog.info? 20).map (fun t => (k, t.size)) = some (k, 1) := by
  have h := Tryz.sz20
  cases hi : Tryz.prog.info? 20 with
  | none => rw [hi] at h; cases h
  | some i => rw [hi] at h; simp only [Option.map_some, Option.some.injEq] at h ⊢; rw [h]
theorem Tryz.is20 : (Tryz.prog.info? 20).isSome = true := by kernel_rfl
theorem Tryz.by20 : (Tryz.prog.info? 20).map (fun j => decide (j.bytes ≤ 1000000)) = some true := by kernel_rfl
theorem Tryz.sz89 : (Tryz.prog.info? 89).map (·.size) = some 1 := by kernel_rfl
theorem Tryz.zr89 : (Tryz.prog.info? 89).map (·.zero) = some (some (.slice none 0 0)) := by kernel_rfl
theorem Tryz.pl89 (k : Nat) : (Tryz.prog.info? 89).map (fun t => (k, t.size)) = some (k, 1) := by
  have h := Tryz.sz89
  cases hi : Tryz.prog.info? 89 with
  | none => rw [hi] at h; cases h
  | some i => rw [hi] at h; simp only [Option.map_some, Option.some.injEq] at h ⊢; rw [h]
theorem Tryz.is89 : (Tryz.prog.info? 89).isSome = true := by kernel_rfl
theorem Tryz.by89 : (Tryz.prog.info? 89).map (fun j => decide (j.bytes ≤ 1000000)) = some true := by kernel_rfl
theorem Tryz.sz132 : (Tryz.prog.info? 132).map (·.size) = some 1 := by kernel_rfl
theorem Tryz.zr132 : (Tryz.prog.info? 132).map (·.zero) = some (some (.slice none 0 0)) := by kernel_rfl
theorem Tryz.pl132 (k : Nat) : (Tryz.prog.info? 132).map (fun t => (k, t.size)) = some (k, 1) := by
  have h := Tryz.sz132
  cases hi : Tryz.prog.info? 132 with
  | none => rw [hi] at h; cases h
  | some i => rw [hi] at h; simp only [Option.map_some, Option.some.injEq] at h ⊢; rw [h]
theorem Tryz.is132 : (Tryz.prog.info? 132).isSome = true := by kernel_rfl
theorem Tryz.by132 : (Tryz.prog.info? 132).map (fun j => decide (j.bytes ≤ 1000000)) = some true := by kernel_rfl
theorem Tryz.sz113 : (Tryz.prog.info? 113).map (·.size) = some 1 := by kernel_rfl
theorem Tryz.zr113 : (Tryz.prog.info? 113).map (·.zero) = some (some (.slice none 0 0)) := by kernel_rfl
theorem Tryz.pl113 (k : Nat) : (Tryz.prog.info? 113).map (fun t => (k, t.size)) = some (k, 1) := by
  have h := Tryz.sz113
  cases hi : Tryz.prog.info? 113 with
  | none => rw [hi] at h; cases h
  | some i => rw [hi] at h; simp only [Option.map_some, Option.some.injEq] at h ⊢; rw [h]
theorem Tryz.is113 : (Tryz.prog.info? 113).isSome = true := by kernel_rfl
theorem Tryz.by113 : (Tryz.prog.info? 113).map (fun j => decide (j.bytes ≤ 1000000)) = some true := by kernel_rfl
theorem Tryz.sz9 : (Tryz.prog.info? 9).map (·.size) = some 1 := by kernel_rfl
theorem Tryz.zr9 : (Tryz.prog.info? 9).map (·.zero) = some (some (.string ⟨#[]⟩)) := by kernel_rfl
theorem Tryz.pl9 (k : Nat) : (Tryz.prog.info? 9).map (fun t => (k, t.size)) = some (k, 1) := by
  have h := Tryz.sz9
  cases hi : Tryz.prog.info? 9 with
  | none => rw [hi] at h; cases h
  | some i => rw [hi] at h; simp only [Option.map_some, Option.some.injEq] at h ⊢; rw [h]
theorem Tryz.is9 : (Tryz.prog.info? 9).isSome = true := by kernel_rfl
theorem Tryz.by9 : (Tryz.prog.info? 9).map (fun j => decide (j.bytes ≤ 1000000)) = some true := by kernel_rfl
theorem Tryz.it39 : Av.intT Tryz.prog 8 39 = some 3 := by kernel_rfl
theorem Tryz.eg39 : Tryz.prog.eqGuardType Tryz.prog.depth 39 = false := by kernel_rfl
theorem Tryz.it137 : Av.intT Tryz.prog 8 137 = some 3 := by kernel_rfl
theorem Tryz.eg137 : Tryz.prog.eqGuardType Tryz.prog.depth 137 = false := by kernel_rfl
theorem Tryz.it66 : Av.intT Tryz.prog 8 66 = some 8 := by kernel_rfl
theorem Tryz.eg66 : Tryz.prog.eqGuardType Tryz.prog.depth 66 = false := by kernel_rfl
theorem Tryz.it28 : Av.intT Tryz.prog 8 28 = some 6 := by kernel_rfl
theorem Tryz.eg28 : Tryz.prog.eqGuardType Tryz.prog.depth 28 = false := by kernel_rfl
theorem Tryz.it60 : Av.intT Tryz.prog 8 60 = some 3 := by kernel_rfl
theorem Tryz.eg60 : Tryz.prog.eqGuardType Tryz.prog.depth 60 = false := by kernel_rfl
end Go.Proofs.YticnppnejafhdaaGreatDoor
/- Texts: strconv.Itoa, strings.Join, and asking an interface for its type: by abstract states. -/
namespace Go.Proofs.YticnppnejafhdaaGreatDoor
open Go.RowKit
open Nd Rc Mo
open Av
open Go.Sort in
theorem below_growT (w : World) (k : Nat) (os : Array Obj) : Below w.heap.size w (grow (w.drewN k) os) :=
  ⟨rfl, rfl, rfl, by show w.heap.size ≤ (w.heap ++ os).size; rw [Array.size_append]; omega, fun j hj => by
    show (w.heap ++ os)[j]? = _
    rw [Array.getElem?_append_left hj]⟩
def txtI (n : Int) : ByteArray := ⟨(Lib.itoa n).toArray⟩
/-- The table of the powers of ten. -/
def TabC (w : World) : Prop := Lib.TabIs Tryz.prog w "internal/strconv.uint64pow10" .u64 Lib.pow10Tab
theorem TabC.below {w w' : World} (hb : Below w.heap.size w w') (h : TabC w) : TabC w' := tab_below hb h
theorem itoaS_ok (i : Nat) (hi : i < 100) : FnOK Tryz.prog 88 [iv (i : Int)] ⟨.v (.string (txtI (i : Int))), none⟩ := fn_of ⟨Tryz.f88, _, Tryz.func88, by kernel_rfl, rfl⟩ fun w R hR us hus => by
  cases hus with | cons h0 _ hus =>
  cases hus
  rw [h0]
  refine (Any.strconv_Itoa_small Tryz.lays171 i hi w).mono ?_
  rintro e w' ⟨rfl, rfl⟩
  exact ⟨_, rfl, Below.refl _ _, rfl, by unfold txtI; rw [Lib.itoa_nonneg]; rfl⟩
theorem itoa_okC (n : Int) (h0 : -9223372036854775808 ≤ n) (h1 : n ≤ 9223372036854775807) : FnOKC Tryz.prog TabC 88 [iv n] ⟨.v (.string (txtI n)), none⟩ := by
  refine ⟨⟨Tryz.f88, _, Tryz.func88, by kernel_rfl, rfl⟩, fun w R hC hR us hus => ?_⟩
  cases hus with | cons h0' _ hus =>
  cases hus
  rw [h0']
  refine (Any.strconv_Itoa Tryz.laysM171 n h0 h1 w hC).mono ?_
  rintro e w' ⟨rfl, k, os, rfl⟩
  exact ⟨_, rfl, below_growT w k os, rfl, rfl⟩
def strRow (s : ByteArray) : List PV := [.v (.string s)]
def joinT (xs : List ByteArray) (sep : ByteArray) : ByteArray := ⟨(Lib.join (xs.map (·.data.toList)) sep.data.toList).toArray⟩
theorem join_ok (xs : List ByteArray) (sep : ByteArray) (hN : xs.length ≤ 140737488355328) (hlen : (Lib.join (xs.map (·.data.toList)) sep.data.toList).length ≤ 140737488355328) :
    FnOK Tryz.prog 89 [.sl 1 (xs.map strRow), .v (.string sep)] ⟨.v (.string (joinT xs sep)), none⟩ := fn_of ⟨Tryz.f89, _, Tryz.func89, by kernel_rfl, rfl⟩ fun w R hR us hus => by
  cases hus with | cons h0 _ hus =>
  cases hus with | cons h1 _ hus =>
  cases hus
  rw [h1]
  have h0' : RepP R (.sl 1 (xs.map strRow)) _ := h0
  generalize hp : PV.sl 1 (xs.map strRow) = p at h0'
  cases h0' with
  | v => cases hp
  | sl sz rows A cap f hsz hA hf hc =>
    injection hp with hsz1 hrows
    subst hsz1
    subst hrows
    rw [List.length_map] at hc ⊢
    refine Calls.mono (R := fun e w' => e = .returned (.string (joinT xs sep)) ∧ Below w.heap.size w w') ?_ (fun e w' h2 => ⟨_, h2.1, h2.2, rfl, rfl⟩)
    have hcells : ∀ (b off : Nat), (∀ (k : Nat) (row : List PV) (j : Nat) (p : PV), (xs.map strRow)[k]? = some row → row[j]? = some p → R ⟨b, off + k * 1 + j, none⟩ = some (f k j)) → ∀ (j : Nat) x, xs[j]? = some x → w.cell? ⟨b, off + j, none⟩ = some (.string x) := fun b off h j x hx => by
      have g1 : (xs.map strRow)[j]? = some (strRow x) := by rw [List.getElem?_map, hx]; rfl
      have g2 := hR _ _ (h j _ 0 _ g1 rfl)
      have g3 := hf j _ 0 _ g1 rfl
      cases hq : f j 0 with
      | string y =>
        rw [hq] at g3 g2
        cases g3
        simpa using g2
      | _ => rw [hq] at g3; cases g3
    match xs, hA, hcells, hN, hc, hlen with
    | [], _, _, _, _, _ =>
      refine (Any.strings_Join_none Tryz.lays156 Tryz.Builder_Extra_156 A cap sep w).mono fun e w' h2 => ⟨?_, h2.2 ▸ Below.refl _ _⟩
      rw [h2.1]; rfl
    | x :: xs, hA, hcells, hN, hc, hlen =>
      rcases hA with hA | ⟨b, off, rfl, hA2⟩
      · cases hA
      · have hc1 := hcells b off hA2
        exact Any.strings_Join Tryz.lays156 Tryz.Builder_Extra_156 b off cap (x :: xs) sep w hc1 (World.block_lt_of_cell? w _ (hc1 0 x rfl)) hN hc hlen
section
variable {n d : Nat} {σ : St} {o : Oper} {K : St → Prop}
theorem hand_assert {x : Operand} {T U t : TypeId} {u z : Value} {ty : TypeDesc} (ho : o.op = .typeAssert x T U true) (hd : o.dst = some d) (hdn : d < n) (hx : evo (Av.look σ.slot) x = some (.v (.iface t u))) (hU : Tryz.prog.underlying U = some ty) (hty : ∀ ms, ty ≠ .interface ms) (hz : (Tryz.prog.info? U).map (·.zero) = some (some z)) (h1 : z.oneCell' = true) (hu1 : u.oneCell' = true)
    (h : K (σ.put d (.tup [.c (.v (if t = U then u else z)), .c (.v (.bool (decide (t = U))))]))) : Hand Tryz.prog n σ o K := by
  refine hand_value hd hdn fun F γ a w hF hr => ⟨.tup [.c (.v (if t = U then u else z)), .c (.v (.bool (decide (t = U))))], .tuple #[if t = U then u else z, .bool (decide (t = U))], w, σ.ext, ?_, Turn.same hr.exth (fun _ h => h) (fun _ h => .inr h), ⟨[_, _], rfl, .cons (.c (.v _ ?_)) (.cons (.c (.v _ rfl)) .nil)⟩, fun k hk => (by cases hk), h⟩
  · have e1 : a.eval x = .iface t u := (evo_ok hr (fun _ _ _ hy => hy) hx).1
    have hzv : (zeroValue U).run Tryz.prog w = .ok z w := by
      cases hi : Tryz.prog.info? U with
      | none => rw [hi] at hz; cases hz
      | some i =>
        rw [hi] at hz
        simp only [Option.map_some, Option.some.injEq] at hz
        simp [zeroValue, typeInfo, hi, hz]
    have hund : (underlying U).run Tryz.prog w = .ok ty w := by
      simp [underlying, hU]
    by_cases ht : t = U
    · subst ht
      simp [execOp, ho, e1, Instr.typeAssert, hund]
    · simp [execOp, ho, e1, Instr.typeAssert, hund, hzv, ht]
  · split
    · exact hu1
    · exact h1
end
end Go.Proofs.YticnppnejafhdaaGreatDoor
/- Lines: plain. -/
namespace Go.Proofs.YticnppnejafhdaaGreatDoor
open Go.RowKit
open Nd Rc Mo
open Av
set_option maxRecDepth 100000
set_option linter.unusedSimpArgs false

inductive Pt where
  | n (i : Int)
  | s (t : ByteArray)
def Pt.pv : Pt → PV
  | .n i => .v (.iface 3 (.int .i64 i))
  | .s t => .v (.iface 9 (.string t))
def Pt.row (p : Pt) : List PV := [p.pv]
def Pt.txt : Pt → ByteArray
  | .n i => txtI i
  | .s t => t
def lineT (l : List Pt) : ByteArray := joinT (l.map Pt.txt) ⟨#[32]⟩ ++ ⟨#[10]⟩
/-- The bytes that some parts take at most. -/
def lensT (l : List Pt) : Nat := (l.map fun p => p.txt.size + 1).foldr (· + ·) 0
theorem ba_size (s : ByteArray) : s.size = s.data.toList.length := (Array.length_toList (xs := s.data)).symm
theorem lens_map : ∀ (l : List Pt), Lib.lens ((l.map Pt.txt).map (·.data.toList)) + l.length = lensT l
  | [] => rfl
  | p :: l => by
    have := lens_map l
    have h := ba_size p.txt
    have e : lensT (p :: l) = p.txt.size + 1 + lensT l := rfl
    have e2 : Lib.lens (((p :: l).map Pt.txt).map (·.data.toList)) = p.txt.data.toList.length + Lib.lens ((l.map Pt.txt).map (·.data.toList)) := rfl
    rw [e, e2, List.length_cons]
    omega
theorem joinT_len (l : List Pt) : (Lib.join ((l.map Pt.txt).map (·.data.toList)) [32]).length ≤ lensT l := by
  have h := lens_map l
  cases l with
  | nil => rw [List.map_nil, List.map_nil, Lib.join_nil]; exact Nat.zero_le _
  | cons p l =>
    rw [List.map_cons, List.map_cons] at h ⊢
    rw [Lib.join_length]
    simp only [List.length_map, List.length_cons, List.length_nil] at h ⊢
    omega
theorem lineT_size (l : List Pt) : (lineT l).size ≤ lensT l + 1 := by
  have h := joinT_len l
  unfold lineT joinT
  rw [ByteArray.size_append]
  have e1 : (⟨(Lib.join ((l.map Pt.txt).map (·.data.toList)) [32]).toArray⟩ : ByteArray).size = (Lib.join ((l.map Pt.txt).map (·.data.toList)) [32]).length := List.size_toArray
  have e2 : (⟨#[10]⟩ : ByteArray).size = 1 := rfl
  have e3 : ((⟨#[32]⟩ : ByteArray).data.toList) = [32] := rfl
  rw [e3, e1, e2]
  omega
end Go.Proofs.YticnppnejafhdaaGreatDoor
/- Contracts that were proved over memory, lifted: flows, records, the monitor. -/
namespace Go.Proofs.YticnppnejafhdaaGreatDoor
open Go.RowKit
open Nd Rc Mo
open Av
set_option maxRecDepth 100000
set_option linter.unusedSimpArgs false

theorem late_ok (fs : List Fl) (r : Rec) (hf : fs.length ≤ 1000000) (hla : r.al.length ≤ 1000000) (hld : r.dl.length ≤ 1000000) : FnOK Tryz.prog 67 [.sl 6 (fs.map Fl.pv), .agg r.pv] ⟨.tup [.c (.sl 3 ((late fs r).1.map Lt.pv)), .c (ip (late fs r).2)], none⟩ := fn_of ⟨Tryz.f67, _, Tryz.func67, by kernel_rfl, rfl⟩ fun w R hR us hus => by
  cases hus with | cons h0 _ hus =>
  cases hus with | cons h1 _ hus =>
  cases hus
  obtain ⟨F, cf, rfl, hF⟩ := fls_rep hR h0
  obtain ⟨A, D, ca, cd, rfl, hA, hD⟩ := rec_rep hR h1
  refine (late_any fs r F A D cf ca cd w hF hf hA hD hla hld).mono ?_
  rintro e w' ⟨hb, v, rfl, hown⟩
  refine ⟨_, rfl, hb, ?_⟩
  rw [lt_pv]
  rw [List.flatMap_def, ← List.length_map (f := Lt.row)] at hown
  exact res_rows (by decide) hown (fun row hr => by obtain ⟨x, _, rfl⟩ := List.mem_map.1 hr; rfl) (fun row hr x hx => by obtain ⟨y, _, rfl⟩ := List.mem_map.1 hr; simp only [Lt.row, List.mem_cons, List.not_mem_nil, or_false] at hx; rcases hx with rfl | rfl | rfl <;> rfl)

theorem rlate_ok (fs : List Fl) (r : Rec) (hf : fs.length ≤ 1000000) (hla : r.al.length ≤ 1000000) (hld : r.dl.length ≤ 1000000) : FnOK Tryz.prog 78 [.sl 6 (fs.map Fl.pv), .agg r.pv] ⟨.tup [.c (.sl 3 ((late fs r).1.map Lt.pv)), .c (ip (late fs r).2)], none⟩ := fn_of ⟨Tryz.f78, _, Tryz.func78, by kernel_rfl, rfl⟩ fun w R hR us hus => by
  cases hus with | cons h0 _ hus =>
  cases hus with | cons h1 _ hus =>
  cases hus
  obtain ⟨F, cf, rfl, hF⟩ := fls_rep hR h0
  obtain ⟨A, D, ca, cd, rfl, hA, hD⟩ := rec_rep hR h1
  refine (rlate_any fs r F A D cf ca cd w hF hf hA hD hla hld).mono ?_
  rintro e w' ⟨hb, v, rfl, hown⟩
  refine ⟨_, rfl, hb, ?_⟩
  rw [lt_pv]
  rw [List.flatMap_def, ← List.length_map (f := Lt.row)] at hown
  exact res_rows (by decide) hown (fun row hr => by obtain ⟨x, _, rfl⟩ := List.mem_map.1 hr; rfl) (fun row hr x hx => by obtain ⟨y, _, rfl⟩ := List.mem_map.1 hr; simp only [Lt.row, List.mem_cons, List.not_mem_nil, or_false] at hx; rcases hx with rfl | rfl | rfl <;> rfl)

theorem rcheck_ok (r : Rec) (hla : r.al.length ≤ 1000000) (hld : r.dl.length ≤ 1000000) : FnOK Tryz.prog 84 [.agg r.pv] ⟨iv (rcheckE r), none⟩ := fn_of ⟨Tryz.f84, _, Tryz.func84, by kernel_rfl, rfl⟩ fun w R hR us hus => by
  cases hus with | cons h0 _ hus =>
  cases hus
  obtain ⟨A, D, ca, cd, rfl, hA, hD⟩ := rec_rep hR h0
  refine (rcheck_any r A D ca cd w hA hD (by omega) (by omega)).mono ?_
  rintro e w' ⟨rfl, hb⟩
  exact ⟨_, rfl, hb, res_v⟩

theorem check_ok (r : Rec) (hla : r.al.length ≤ 1000000) (hld : r.dl.length ≤ 1000000) : FnOK Tryz.prog 56 [.agg r.pv] ⟨iv (checkE r), none⟩ := fn_of ⟨Tryz.f56, _, Tryz.func56, by kernel_rfl, rfl⟩ fun w R hR us hus => by
  cases hus with | cons h0 _ hus =>
  cases hus
  obtain ⟨A, D, ca, cd, rfl, hA, hD⟩ := rec_rep hR h0
  refine (check_any r A D ca cd w hA hD (by omega) (by omega)).mono ?_
  rintro e w' ⟨rfl, hb⟩
  exact ⟨_, rfl, hb, res_v⟩

end Go.Proofs.YticnppnejafhdaaGreatDoor
/- Plain: networks, and what Check says of them. No program's numbers. -/
namespace Go.Proofs.YticnppnejafhdaaGreatDoor
namespace Mo
open Nd
structure Lk where
  (fr tt ls : Int)
structure Net where
  (nodes noise thr : Int)
  (pow : List (List Int))
  (lk : List Lk)
  (mg : List Int)
def outP (p : Int) : Bool := decide (p < 0) || decide (68719476736 < p)
def powE (nodes : Int) (pow : List (List Int)) : Int :=
  if ((pow.length : Nat) : Int) ≠ nodes ∨ pow.any (fun r => !(((r.length : Nat) : Int) == nodes)) = true then 1 else if pow.any (fun r => r.any outP) = true then 2 else 0
def lkB (nodes : Int) (l : Lk) : Bool := inB l.fr 0 (nodes - 1) && (inB l.tt 0 (nodes - 1) && (!(l.fr == l.tt) && inB l.ls 0 7))
def prevBadL (p : Option Lk) (l : Lk) : Bool := match p with
  | none => false
  | some q => decide (l.fr < q.fr) || (q.fr == l.fr && decide (l.tt ≤ q.tt))
def powAt (pow : List (List Int)) (a b : Int) : Int := (pow.getD a.toNat []).getD b.toNat 0
def lkE (nodes : Int) (pow : List (List Int)) (p : Option Lk) (l : Lk) (m : Int) : Int :=
  if lkB nodes l = false then 2 else if prevBadL p l = true then 5 else if m < 0 ∨ powAt pow l.fr l.tt < m then 2 else 0
def lkGo (nodes : Int) (pow : List (List Int)) : Option Lk → List Lk → List Int → Int
  | _, [], _ => 0
  | p, l :: ls, ms => if lkE nodes pow p l (ms.headD 0) = 0 then lkGo nodes pow (some l) ls ms.tail else lkE nodes pow p l (ms.headD 0)
/-- The first fault of a network. -/
def chkN (n : Net) : Int :=
  if n.nodes < 2 ∨ 32 < n.nodes then 2
  else if powE n.nodes n.pow ≠ 0 then powE n.nodes n.pow
  else if inB n.noise 0 68719476736 = false ∨ inB n.thr 1000 100000 = false then 2
  else if 128 < n.lk.length then 8
  else if n.mg.length ≠ n.lk.length then 11
  else lkGo n.nodes n.pow none n.lk n.mg
end Mo
end Go.Proofs.YticnppnejafhdaaGreatDoor
/- Walks: the powers of a network. -/
namespace Go.Proofs.YticnppnejafhdaaGreatDoor
open Go.RowKit
open Nd Rc Mo

/-- A row of powers, with its place. -/
structure PRow where
  (l : List Int) (A : Option Addr) (c : Nat)
def PRow.row (p : PRow) : List Value := [.slice p.A p.l.length p.c]
def Mo.Lk.row (l : Lk) : List Value := [.int .i64 l.fr, .int .i64 l.tt, .int .i64 l.ls]
def LiesP (w : World) (B : Nat) (P : Option Addr) (pw : List PRow) : Prop := Lies w B 1 P (pw.map PRow.row) ∧ ∀ p ∈ pw, LiesI w B p.A p.l ∧ p.l.length ≤ 1000000
theorem LiesP.later {w w' : World} {P : Option Addr} {pw : List PRow} (h : LiesP w w.heap.size P pw) (hb : Below w.heap.size w w') : LiesP w' w'.heap.size P pw := ⟨(h.1.below hb).more hb.size, fun p hp => ⟨((h.2 p hp).1.below hb).more hb.size, (h.2 p hp).2⟩⟩
theorem idx_any {α : Type} (p : α → Bool) (l : List α) : decide (0 ≤ idxP p l 0) = l.any p := by
  rcases idxP_spec p l 0 with ⟨h1, h2⟩ | ⟨i, a, h1, h2, h3, h4⟩
  · rw [h1, show decide ((0 : Int) ≤ -1) = false from rfl]
    symm
    rw [Bool.eq_false_iff]
    intro h
    obtain ⟨x, hx, hpx⟩ := List.any_eq_true.1 h
    have := List.all_eq_true.1 h2 x hx
    rw [hpx] at this
    cases this
  · rw [h3, show decide ((0 : Int) ≤ 0 + (i : Int)) = true from decide_eq_true (by omega)]
    symm
    exact List.any_eq_true.2 ⟨a, List.mem_of_getElem? h1, h2⟩

set_option maxRecDepth 100000 in
set_option maxHeartbeats 1000000 in
theorem indexI_any (p : Int → Bool) (g : FuncId) (cb : Array Value) (l : List Int) (A : Option Addr) (c : Nat) (w : World) (eg : ∀ args w, (callFunc g args).run Tryz.prog w = .ok (.enter g args) w)
    (hA : Lies w w.heap.size 1 A (l.map irow)) (hl : l.length ≤ 1000000) (hp : ∀ W, Below w.heap.size w W → ∀ a, a ∈ l → Calls Tryz.prog g (#[.int .i64 a] ++ cb) W fun e w' => e = .returned (.bool (p a)) ∧ Below W.heap.size W w') :
    Calls Tryz.prog 122 #[.slice A l.length c, .func (.func g) #[] cb] w fun e w' => e = .returned (.int .i64 (idxP p l 0)) ∧ Below w.heap.size w w' := by
  obtain ⟨n, hn⟩ : ∃ n, n = l.length := ⟨_, rfl⟩
  rw [← hn] at hl ⊢
  have HN := Lib.hid hn
  obtain ⟨T, hT⟩ : ∃ T, T = idxP p l 0 := ⟨_, rfl⟩
  rw [← hT]
  have HT := Lib.hid hT
  have HP := Lib.hid hp
  clear hn hT hp
  go_enter Tryz.func122, Tryz.ntmps122
  go_wp2_with fail
  go_loopw [8] (fun i wr => ∃ (k : Nat), k ≤ n ∧ i = .int .i64 k ∧ Below w.heap.size w wr ∧ Hid (T = idxP p (l.drop k) k)) (fun i _ => n - (intOf i).toNat)
  case atStart => exact ⟨0, Nat.zero_le _, rfl, Below.refl _ _, Lib.hid (by rw [HT.out]; rfl)⟩
  case round =>
    obtain ⟨k, hk, rfl, hb, hst⟩ := hrel
    by_cases hlt : k < n
    · obtain ⟨a, ha⟩ := get_of_lt (l := l) (k := k) (by rw [← HN.out]; exact hlt)
      obtain ⟨b, off, rfl, hbB, hcs⟩ := (Lies.below hA hb).at_ ha
      have c0 := hcs k a ha 0 _ rfl
      simp only [Nat.add_zero, Nat.mul_one] at c0
      have hst' : Hid (T = if p a = true then (k : Int) else idxP p (l.drop (k + 1)) ((k : Int) + 1)) := Lib.hid (by rw [hst.out, drop_of_get ha]; rfl)
      have hcall := HP.out wr hb a (List.mem_of_getElem? ha)
      clear hcs ha hst
      cases hq : p a with
      | true =>
        rw [hq] at hcall
        have hf := Lib.hid (show T = (k : Int) by rw [hst'.out, if_pos hq])
        clear hst' hq
        go_wp2_with (go_at_fn g; refine hcall.mono ?_; rintro e w2 ⟨rfl, hb2⟩)
        go_ret
        exact ⟨ret_int (by rw [hf.out]), hb.trans (hb2.mono hb.size)⟩
      | false =>
        rw [hq] at hcall
        have hf := Lib.hid (show T = idxP p (l.drop (k + 1)) ((k + 1 : Nat) : Int) by rw [hst'.out, if_neg (by rw [hq]; decide)]; rfl)
        clear hst' hq
        go_wp2_with (go_at_fn g; refine hcall.mono ?_; rintro e w2 ⟨rfl, hb2⟩)
        go_roundw
        case rel => exact ⟨k + 1, by omega, by go_num, hb.trans (hb2.mono hb.size), hf⟩
        case measure => simp [intOf]; omega
    · have hf : Hid (T = -1) := Lib.hid (by rw [hst.out, List.drop_of_length_le (by rw [← HN.out]; omega)]; rfl)
      go_wp2_with fail
      go_ret
      exact ⟨ret_int (by rw [hf.out]), hb⟩

theorem contI_any (p : Int → Bool) (g : FuncId) (cb : Array Value) (l : List Int) (A : Option Addr) (c : Nat) (w : World) (eg : ∀ args w, (callFunc g args).run Tryz.prog w = .ok (.enter g args) w)
    (hA : Lies w w.heap.size 1 A (l.map irow)) (hl : l.length ≤ 1000000) (hp : ∀ W, Below w.heap.size w W → ∀ a, a ∈ l → Calls Tryz.prog g (#[.int .i64 a] ++ cb) W fun e w' => e = .returned (.bool (p a)) ∧ Below W.heap.size W w') :
    Calls Tryz.prog 86 #[.slice A l.length c, .func (.func g) #[] cb] w fun e w' => e = .returned (.bool (l.any p)) ∧ Below w.heap.size w w' := by
  have con := indexI_any p g cb l A c w eg hA hl hp
  have HT : Hid (decide (0 ≤ idxP p l 0) = l.any p) := Lib.hid (idx_any p l)
  generalize idxP p l 0 = T at *
  generalize l.any p = R at *
  generalize l.length = n at *
  have Con := Lib.hid con
  clear con hA hp
  go_enter Tryz.func86, Tryz.ntmps86
  go_wp2_with (go_at_call 122; (with_reducible refine Con.out.mono ?_); rintro e w' ⟨rfl, hb⟩)
  go_ret
  exact ⟨ret_bool HT.out, hb⟩

set_option maxRecDepth 100000 in
set_option maxHeartbeats 1000000 in
theorem indexP_any (p : PRow → Bool) (g : FuncId) (cb : Array Value) (l : List PRow) (A : Option Addr) (c : Nat) (w : World) (eg : ∀ args w, (callFunc g args).run Tryz.prog w = .ok (.enter g args) w)
    (hA : Lies w w.heap.size 1 A (l.map PRow.row)) (hl : l.length ≤ 1000000) (hp : ∀ W, Below w.heap.size w W → ∀ a, a ∈ l → Calls Tryz.prog g (#[.slice a.A a.l.length a.c] ++ cb) W fun e w' => e = .returned (.bool (p a)) ∧ Below W.heap.size W w') :
    Calls Tryz.prog 162 #[.slice A l.length c, .func (.func g) #[] cb] w fun e w' => e = .returned (.int .i64 (idxP p l 0)) ∧ Below w.heap.size w w' := by
  obtain ⟨n, hn⟩ : ∃ n, n = l.length := ⟨_, rfl⟩
  rw [← hn] at hl ⊢
  have HN := Lib.hid hn
  obtain ⟨T, hT⟩ : ∃ T, T = idxP p l 0 := ⟨_, rfl⟩
  rw [← hT]
  have HT := Lib.hid hT
  have HP := Lib.hid hp
  clear hn hT hp
  go_enter Tryz.func162, Tryz.ntmps162
  go_wp2_with fail
  go_loopw [8] (fun i wr => ∃ (k : Nat), k ≤ n ∧ i = .int .i64 k ∧ Below w.heap.size w wr ∧ Hid (T = idxP p (l.drop k) k)) (fun i _ => n - (intOf i).toNat)
  case atStart => exact ⟨0, Nat.zero_le _, rfl, Below.refl _ _, Lib.hid (by rw [HT.out]; rfl)⟩
  case round =>
    obtain ⟨k, hk, rfl, hb, hst⟩ := hrel
    by_cases hlt : k < n
    · obtain ⟨a, ha⟩ := get_of_lt (l := l) (k := k) (by rw [← HN.out]; exact hlt)
      obtain ⟨b, off, rfl, hbB, hcs⟩ := (Lies.below hA hb).at_ ha
      have c0 := hcs k a ha 0 _ rfl
      simp only [Nat.add_zero, Nat.mul_one] at c0
      have hst' : Hid (T = if p a = true then (k : Int) else idxP p (l.drop (k + 1)) ((k : Int) + 1)) := Lib.hid (by rw [hst.out, drop_of_get ha]; rfl)
      have hcall := HP.out wr hb a (List.mem_of_getElem? ha)
      clear hcs ha hst
      cases hq : p a with
      | true =>
        rw [hq] at hcall
        have hf := Lib.hid (show T = (k : Int) by rw [hst'.out, if_pos hq])
        clear hst' hq
        go_wp2_with (go_at_fn g; refine hcall.mono ?_; rintro e w2 ⟨rfl, hb2⟩)
        go_ret
        exact ⟨ret_int (by rw [hf.out]), hb.trans (hb2.mono hb.size)⟩
      | false =>
        rw [hq] at hcall
        have hf := Lib.hid (show T = idxP p (l.drop (k + 1)) ((k + 1 : Nat) : Int) by rw [hst'.out, if_neg (by rw [hq]; decide)]; rfl)
        clear hst' hq
        go_wp2_with (go_at_fn g; refine hcall.mono ?_; rintro e w2 ⟨rfl, hb2⟩)
        go_roundw
        case rel => exact ⟨k + 1, by omega, by go_num, hb.trans (hb2.mono hb.size), hf⟩
        case measure => simp [intOf]; omega
    · have hf : Hid (T = -1) := Lib.hid (by rw [hst.out, List.drop_of_length_le (by rw [← HN.out]; omega)]; rfl)
      go_wp2_with fail
      go_ret
      exact ⟨ret_int (by rw [hf.out]), hb⟩

theorem contP_any (p : PRow → Bool) (g : FuncId) (cb : Array Value) (l : List PRow) (A : Option Addr) (c : Nat) (w : World) (eg : ∀ args w, (callFunc g args).run Tryz.prog w = .ok (.enter g args) w)
    (hA : Lies w w.heap.size 1 A (l.map PRow.row)) (hl : l.length ≤ 1000000) (hp : ∀ W, Below w.heap.size w W → ∀ a, a ∈ l → Calls Tryz.prog g (#[.slice a.A a.l.length a.c] ++ cb) W fun e w' => e = .returned (.bool (p a)) ∧ Below W.heap.size W w') :
    Calls Tryz.prog 131 #[.slice A l.length c, .func (.func g) #[] cb] w fun e w' => e = .returned (.bool (l.any p)) ∧ Below w.heap.size w w' := by
  have con := indexP_any p g cb l A c w eg hA hl hp
  have HT : Hid (decide (0 ≤ idxP p l 0) = l.any p) := Lib.hid (idx_any p l)
  generalize idxP p l 0 = T at *
  generalize l.any p = R at *
  generalize l.length = n at *
  have Con := Lib.hid con
  clear con hA hp
  go_enter Tryz.func131, Tryz.ntmps131
  go_wp2_with (go_at_call 162; (with_reducible refine Con.out.mono ?_); rintro e w' ⟨rfl, hb⟩)
  go_ret
  exact ⟨ret_bool HT.out, hb⟩

theorem cpow1_any (p : PRow) (nodes : Int) (g : Nat) (w : World) (hc : w.cell? ⟨g, 0, none⟩ = some (.int .i64 nodes)) :
    Calls Tryz.prog 132 #[.slice p.A p.l.length p.c, .pointer (some ⟨g, 0, none⟩)] w fun e w' => e = .returned (.bool (!(((p.l.length : Nat) : Int) == nodes))) ∧ Below w.heap.size w w' := by
  go_enter Tryz.func132, Tryz.ntmps132
  go_wp2_with fail
  go_ret
  exact ⟨rfl, Below.refl _ _⟩
theorem cpow2_any (x : Int) (w : World) :
    Calls Tryz.prog 133 #[.int .i64 x] w fun e w' => e = .returned (.bool (outP x)) ∧ Below w.heap.size w w' := by
  unfold outP
  go_enter Tryz.func133, Tryz.ntmps133
  go_wp2
  all_goals
    go_ret
    exact ⟨ret_bool (by first | (simp [*]; done) | (simp [*]; omega)), Below.refl _ _⟩
theorem cpow3_any (p : PRow) (g : Nat) (w : World) (hc : w.cell? ⟨g, 0, none⟩ = some (.func (.func 133) #[] #[])) (hp : LiesI w w.heap.size p.A p.l) (hl : p.l.length ≤ 1000000) :
    Calls Tryz.prog 134 #[.slice p.A p.l.length p.c, .pointer (some ⟨g, 0, none⟩)] w fun e w' => e = .returned (.bool (p.l.any outP)) ∧ Below w.heap.size w w' := by
  have con := contI_any outP 133 #[] p.l p.A p.c w (enters_of Tryz.func133 (by kernel_rfl) rfl) hp hl (fun W hW a _ => cpow2_any a W)
  generalize p.l.any outP = R at *
  generalize p.l.length = n at *
  have Con := Lib.hid con
  clear con hp hl
  go_enter Tryz.func134, Tryz.ntmps134
  go_wp2_with (go_at_call 86; (with_reducible refine Con.out.mono ?_); rintro e w' ⟨rfl, hb⟩)
  go_ret
  exact ⟨rfl, hb⟩

set_option maxHeartbeats 2000000 in
theorem cpow_any (nodes noise thr : Int) (pw : List PRow) (lk : List Lk) (mg : List Int) (P L G : Option Addr) (cp cl cg : Nat) (w : World) (hP : LiesP w w.heap.size P pw) (hp : pw.length ≤ 1000000) :
    Calls Tryz.prog 91 #[.agg #[.int .i64 nodes, .slice P pw.length cp, .int .i64 noise, .int .i64 thr, .slice L lk.length cl, .slice G mg.length cg]] w fun e w' => e = .returned (.int .i64 (powE nodes (pw.map PRow.l))) ∧ Below w.heap.size w w' := by
  obtain ⟨np, hnp⟩ : ∃ n, n = pw.length := ⟨_, rfl⟩
  obtain ⟨T, hT⟩ : ∃ T, T = powE nodes (pw.map PRow.l) := ⟨_, rfl⟩
  unfold powE at hT
  rw [List.any_map, List.any_map, List.length_map, ← hnp] at hT
  obtain ⟨N, hN⟩ : ∃ N, N = w.heap.size := ⟨_, rfl⟩
  generalize lk.length = nl at *
  generalize mg.length = nm at *
  rw [← hnp]
  obtain ⟨W1, hW1⟩ : ∃ W1, W1 = w.alloc (.cells #[.int .i64 nodes, .slice P np cp, .int .i64 noise, .int .i64 thr, .slice L nl cl, .slice G nm cg] 26) := ⟨_, rfl⟩
  have hb1 : Below N w W1 := by rw [hW1, hN]; exact (Below.refl _ _).alloc (Nat.le_refl _) _
  have bN : Blk W1 N 26 [.int .i64 nodes, .slice P np cp, .int .i64 noise, .int .i64 thr, .slice L nl cl, .slice G nm cg] := by rw [hW1]; exact Blk.new2 _ [.int .i64 nodes, .slice P np cp, .int .i64 noise, .int .i64 thr, .slice L nl cl, .slice G nm cg] hN
  have HW := Lib.hid (fun W (h' : Below W1.heap.size W1 W) => (show Below w.heap.size w W ∧ Row W N [.int .i64 nodes, .slice P np cp, .int .i64 noise, .int .i64 thr, .slice L nl cl, .slice G nm cg] from ⟨by rw [← hN]; exact hb1.trans (h'.mono (by have := bN.lt; omega)), (bN.below h' bN.lt).row⟩))
  have HP := Lib.hid (fun W (h' : Below W1.heap.size W1 W) => LiesP.later hP (HW.out W h').1)
  have C1 := Lib.hid (fun W (h' : Below W1.heap.size W1 W) => contP_any (fun p => !(((p.l.length : Nat) : Int) == nodes)) 132 #[.pointer (some ⟨N, 0, none⟩)] pw P cp W (enters_of Tryz.func132 (by kernel_rfl) rfl) (HP.out W h').1 hp (fun W2 h2 a _ => cpow1_any a nodes N W2 ((HW.out W2 (h'.trans (h2.mono h'.size))).2 0)))
  have C3 := Lib.hid (fun g W (h' : Below W1.heap.size W1 W) (hg : g < W.heap.size) (hc : W.cell? ⟨g, 0, none⟩ = some (.func (.func 133) #[] #[])) => contP_any (fun p => p.l.any outP) 134 #[.pointer (some ⟨g, 0, none⟩)] pw P cp W (enters_of Tryz.func134 (by kernel_rfl) rfl) (HP.out W h').1 hp (fun W2 h2 a ha => cpow3_any a g W2 ((h2.cell (p := ⟨g, 0, none⟩) hg).trans hc) ((HP.out W2 (h'.trans (h2.mono h'.size))).2 a ha).1 ((HP.out W2 (h'.trans (h2.mono h'.size))).2 a ha).2))
  have HT : Hid (T = if ((np : Nat) : Int) ≠ nodes ∨ (pw.any fun p => !(((p.l.length : Nat) : Int) == nodes)) = true then 1 else if (pw.any fun p => p.l.any outP) = true then 2 else 0) := Lib.hid hT
  rw [← hnp] at C1 C3
  rw [show powE nodes (pw.map PRow.l) = T from by rw [hT]; unfold powE; rw [List.any_map, List.any_map, List.length_map, ← hnp]]
  generalize (pw.any fun p => !(((p.l.length : Nat) : Int) == nodes)) = R1 at *
  generalize (pw.any fun p => p.l.any outP) = R3 at *
  have HW1 := Lib.hid hW1
  have HN := Lib.hid hN
  have hNl := bN.lt
  have r1 : Row (w.alloc (.cells #[.int .i64 nodes, .slice P np cp, .int .i64 noise, .int .i64 thr, .slice L nl cl, .slice G nm cg] 26)) N [.int .i64 nodes, .slice P np cp, .int .i64 noise, .int .i64 thr, .slice L nl cl, .slice G nm cg] := by rw [← hW1]; exact bN.row
  rw [HN.out] at r1
  unfold Row at r1
  clear hT hnp hb1 bN hP hN hW1 HP hp
  go_enter Tryz.func91, Tryz.ntmps91
  clear r1
  by_cases h1 : ((np : Nat) : Int) = nodes
  case neg =>
    have hf : Hid (T = 1) := Lib.hid (by rw [HT.out, if_pos (.inl h1)])
    have h1' : (((np : Nat) : Int) != nodes) = true := by simpa using h1
    clear h1
    go_wp2_with fail
    go_ret
    exact ⟨ret_int (by rw [hf.out]), by rw [← HW1.out]; exact (HW.out _ (Below.refl _ _)).1⟩
  have h1' : (((np : Nat) : Int) != nodes) = false := by simpa using h1
  have HT2 : Hid (T = if R1 = true then 1 else if R3 = true then 2 else 0) := Lib.hid (by rw [HT.out]; simp [h1])
  have C1' := Lib.hid (C1.out _ (Below.refl _ _))
  clear h1 HT C1
  rw [HN.out] at C1'
  rw [HW1.out] at C1'
  go_wp2_with fail
  refine C1'.out.mono ?_
  rintro e w2 ⟨rfl, hb2⟩
  rw [← HW1.out] at hb2
  cases R1 with
  | true =>
    have hf : Hid (T = 1) := Lib.hid (by rw [HT2.out, if_pos rfl])
    go_wp2_with fail
    go_ret
    exact ⟨ret_int (by rw [hf.out]), (HW.out _ hb2).1⟩
  | false =>
    have HT3 : Hid (T = if R3 = true then 2 else 0) := Lib.hid (by rw [HT2.out]; rfl)
    have r2 := (HW.out _ hb2).2
    rw [HN.out] at r2
    unfold Row at r2
    clear HT2 C1'
    go_upto_region 4 with fail
    obtain ⟨g, hg⟩ : ∃ g, g = w2.heap.size := ⟨_, rfl⟩
    generalize hWa : World.alloc _ _ = Wa
    have ba : Blk Wa g 90 [.func (.func 133) #[] #[]] := by rw [← hWa]; exact Blk.new2 90 [.func (.func 133) #[] #[]] hg
    have hba : Below W1.heap.size W1 Wa := by rw [← hWa]; exact hb2.alloc hb2.size _
    have Con := Lib.hid (C3.out g Wa hba ba.lt (ba.row 0))
    have r3 := (HW.out _ hba).2
    rw [HN.out] at r3
    unfold Row at r3
    rw [← hg]
    clear hWa hg r2 C3 ba
    go_wp2_with fail
    refine Con.out.mono ?_
    rintro e w3 ⟨rfl, hb3⟩
    have hB3 : Below W1.heap.size W1 w3 := hba.trans (hb3.mono hba.size)
    cases R3 with
    | true =>
      have hf : Hid (T = 2) := Lib.hid (by rw [HT3.out]; rfl)
      go_wp2_with fail
      go_ret
      exact ⟨ret_int (by rw [hf.out]), (HW.out _ hB3).1⟩
    | false =>
      have hf : Hid (T = 0) := Lib.hid (by rw [HT3.out]; rfl)
      go_wp2_with fail
      go_ret
      exact ⟨ret_int (by rw [hf.out]), (HW.out _ hB3).1⟩
end Go.Proofs.YticnppnejafhdaaGreatDoor
/- Walks: package network: compare, the check of a link. -/
namespace Go.Proofs.YticnppnejafhdaaGreatDoor
open Go.RowKit
open Nd Rc Mo

theorem prevL_eq (q l : Lk) : decide (0 ≤ orI [Rc.cmpI q.fr l.fr, Rc.cmpI q.tt l.tt]) = prevBadL (some q) l := by
  unfold orI orI orI Rc.cmpI prevBadL
  by_cases h1 : q.fr < l.fr
  · have h2 : ¬ l.fr < q.fr := by omega
    have h3 : ¬ q.fr = l.fr := by omega
    simp [h1, h2, h3]
  · by_cases h2 : l.fr < q.fr
    · simp [h1, h2]
    · have h3 : q.fr = l.fr := by omega
      by_cases h4 : q.tt < l.tt
      · have h5 : ¬ l.tt ≤ q.tt := by omega
        simp [h3, h4, h5]
      · have h5 : l.tt ≤ q.tt := by omega
        by_cases h6 : l.tt < q.tt <;> simp [h3, h4, h5, h6]

set_option maxRecDepth 100000 in
set_option maxHeartbeats 1000000 in
theorem ncompare_any (x y : Lk) (w : World) : Calls Tryz.prog 113 #[.agg #[.int .i64 x.fr, .int .i64 x.tt, .int .i64 x.ls], .agg #[.int .i64 y.fr, .int .i64 y.tt, .int .i64 y.ls]] w
    fun e w' => e = .returned (.int .i64 (orI [Rc.cmpI x.fr y.fr, Rc.cmpI x.tt y.tt])) ∧ Below w.heap.size w w' := by
  obtain ⟨f, t, l⟩ := x
  obtain ⟨f', t', l'⟩ := y
  dsimp only
  obtain ⟨W1, hW1⟩ : ∃ W1, W1 = (w.alloc (.cells #[.int .i64 f, .int .i64 t, .int .i64 l] 60)).alloc (.cells #[.int .i64 f', .int .i64 t', .int .i64 l'] 60) := ⟨_, rfl⟩
  have hb1 : Below w.heap.size w W1 := by rw [hW1]; exact ((Below.refl _ _).alloc (Nat.le_refl _) _).alloc (by simp) _
  have b1 : Blk W1 w.heap.size 60 [.int .i64 f, .int .i64 t, .int .i64 l] := by rw [hW1]; exact Blk.alloc (Blk.new2 _ [.int .i64 f, .int .i64 t, .int .i64 l] rfl) _
  have b2 : Blk W1 (w.heap.size + 1) 60 [.int .i64 f', .int .i64 t', .int .i64 l'] := by rw [hW1]; exact Blk.new2 _ [.int .i64 f', .int .i64 t', .int .i64 l'] (by simp)
  have HW1 := Lib.hid hW1
  clear hW1
  go_enter Tryz.func113, Tryz.ntmps113
  go_upto_region 1 with fail
  rw [← HW1.out]
  have x1 := b1.row.ext (B := W1.heap.size) b1.lt
  have x2 := b2.row.ext (B := W1.heap.size) b2.lt
  refine wp_region_ext_tail W1.heap.size 10 (by kernel_rfl) (by kernel_rfl) ?_
  simp only [List.take_succ_cons, List.take_zero, List.drop_succ_cons, List.drop_zero]
  repeat (go_big_quiet_step ((go_at_call 62; exact Calls.ext_same (cmp_any _ _ _))))
  refine wpQuiet_nil ?_
  rintro _ ⟨x, rfl⟩
  have hb' := hb1.trans (x.below.mono hb1.size)
  obtain ⟨W, hW⟩ := x
  go_wp2_with (go_at_call 61; refine (or_any [cmpI f f', cmpI t t'] _ 0 2 _ (by simp) ?_).mono ?_)
  · exact fun k x hx => ints_get hx
  go_ret
  exact ⟨rfl, hb'.alloc (hb'.size) _⟩

theorem clink1_any (a nodes : Int) (g : Nat) (w : World) (hc : w.cell? ⟨g, 0, none⟩ = some (.int .i64 nodes)) :
    Calls Tryz.prog 135 #[.int .i64 a, .pointer (some ⟨g, 0, none⟩)] w fun e w' => e = .returned (.bool (Nd.inB a 0 (nodes - 1))) ∧ Below w.heap.size w w' := by
  have hi : Nd.inB a 0 (nodes - 1) = (decide (0 ≤ a) && decide (a < nodes)) := by
    unfold Nd.inB
    congr 1
    exact decide_eq_decide.2 (by omega)
  rw [hi]
  go_enter Tryz.func135, Tryz.ntmps135
  go_wp2
  all_goals
    go_ret
    exact ⟨ret_bool (by first | (simp [*]; done) | (simp [*]; omega)), Below.refl _ _⟩
end Go.Proofs.YticnppnejafhdaaGreatDoor
/- Walks: package network: checkLink, Check. -/
namespace Go.Proofs.YticnppnejafhdaaGreatDoor
open Go.RowKit
open Nd Rc Mo

/-- The link ahead of the one at i. -/
def prevL (lk : List Lk) (i : Nat) : Option Lk := if i = 0 then none else lk[i - 1]?
theorem pow_at {pw : List PRow} {nodes : Int} (hpn : ((pw.length : Nat) : Int) = nodes) (hrow : ∀ p ∈ pw, ((p.l.length : Nat) : Int) = nodes) {a b : Int} (ha : 0 ≤ a ∧ a ≤ nodes - 1) (hb : 0 ≤ b ∧ b ≤ nodes - 1) :
    ∃ p v, pw[a.toNat]? = some p ∧ p.l[b.toNat]? = some v ∧ powAt (pw.map PRow.l) a b = v := by
  obtain ⟨p, hp⟩ := get_of_lt (l := pw) (k := a.toNat) (by omega)
  have hr := hrow p (List.mem_of_getElem? hp)
  obtain ⟨v, hv⟩ := get_of_lt (l := p.l) (k := b.toNat) (by omega)
  refine ⟨p, v, hp, hv, ?_⟩
  unfold powAt
  rw [List.getD_eq_getElem?_getD, List.getD_eq_getElem?_getD, List.getElem?_map, hp]
  simp [hv]

set_option maxRecDepth 100000 in
set_option maxHeartbeats 4000000 in
theorem clink_any (nodes noise thr : Int) (pw : List PRow) (lk : List Lk) (mg : List Int) (P L G : Option Addr) (cp cl cg : Nat) (i : Nat) (l : Lk) (m : Int) (w : World) (hP : LiesP w w.heap.size P pw) (hp : pw.length ≤ 1000000) (hL : Lies w w.heap.size 3 L (lk.map Lk.row)) (hl : lk.length ≤ 1000000) (hG : LiesI w w.heap.size G mg) (hg : mg.length = lk.length)
    (hpn : ((pw.length : Nat) : Int) = nodes) (hrow : ∀ p ∈ pw, ((p.l.length : Nat) : Int) = nodes) (hi : lk[i]? = some l) (hm : mg[i]? = some m) :
    Calls Tryz.prog 92 #[.agg #[.int .i64 nodes, .slice P pw.length cp, .int .i64 noise, .int .i64 thr, .slice L lk.length cl, .slice G mg.length cg], .int .i64 (i : Nat)] w fun e w' => e = .returned (.int .i64 (lkE nodes (pw.map PRow.l) (prevL lk i) l m)) ∧ Below w.heap.size w w' := by
  obtain ⟨np, hnp⟩ : ∃ n, n = pw.length := ⟨_, rfl⟩
  obtain ⟨nl, hnl⟩ : ∃ n, n = lk.length := ⟨_, rfl⟩
  obtain ⟨nm, hnm⟩ : ∃ n, n = mg.length := ⟨_, rfl⟩
  have hil : i < nl := by rw [hnl]; exact (List.getElem?_eq_some_iff.1 hi).1
  have him : i < nm := by omega
  have hl6 : nl ≤ 1000000 := by omega
  obtain ⟨T, hT⟩ : ∃ T, T = lkE nodes (pw.map PRow.l) (prevL lk i) l m := ⟨_, rfl⟩
  obtain ⟨N, hN⟩ : ∃ N, N = w.heap.size := ⟨_, rfl⟩
  rw [← hT, ← hnp, ← hnl, ← hnm]
  obtain ⟨W1, hW1⟩ : ∃ W1, W1 = w.alloc (.cells #[.int .i64 nodes, .slice P np cp, .int .i64 noise, .int .i64 thr, .slice L nl cl, .slice G nm cg] 26) := ⟨_, rfl⟩
  have hb1 : Below N w W1 := by rw [hW1, hN]; exact (Below.refl _ _).alloc (Nat.le_refl _) _
  have bN : Blk W1 N 26 [.int .i64 nodes, .slice P np cp, .int .i64 noise, .int .i64 thr, .slice L nl cl, .slice G nm cg] := by rw [hW1]; exact Blk.new2 _ [.int .i64 nodes, .slice P np cp, .int .i64 noise, .int .i64 thr, .slice L nl cl, .slice G nm cg] hN
  have HW := Lib.hid (fun W (h' : Below W1.heap.size W1 W) => (show Below w.heap.size w W ∧ Row W N [.int .i64 nodes, .slice P np cp, .int .i64 noise, .int .i64 thr, .slice L nl cl, .slice G nm cg] from ⟨by rw [← hN]; exact hb1.trans (h'.mono (by have := bN.lt; omega)), (bN.below h' bN.lt).row⟩))
  have HP := Lib.hid (fun W (h' : Below W1.heap.size W1 W) => LiesP.later hP (HW.out W h').1)
  have HL := Lib.hid (fun W (h' : Below W1.heap.size W1 W) => (hL.below (HW.out W h').1).more (HW.out W h').1.size)
  have HGm := Lib.hid (fun W (h' : Below W1.heap.size W1 W) => (hG.below (HW.out W h').1).more (HW.out W h').1.size)
  have Con := Lib.hid (fun (a : Int) W (h' : Below W1.heap.size W1 W) => clink1_any a nodes N W ((HW.out W h').2 0))
  have HT := Lib.hid hT
  have HPn := Lib.hid (And.intro hpn hrow)
  have HI := Lib.hid hi
  have HMm := Lib.hid hm
  have HNl := Lib.hid hnl
  have HNm := Lib.hid hnm
  have HNp := Lib.hid hnp
  have HN := Lib.hid hN
  have HW1 := Lib.hid hW1
  have hNl := bN.lt
  have hz1 : W1.heap.size = N + 1 := by rw [hW1, hN]; simp
  obtain ⟨lb, loff, hLe, hlB, hcs⟩ := (HL.out _ (Below.refl _ _)).at_ hi
  have c0 := hcs i l hi 0 _ rfl
  have c1 := hcs i l hi 1 _ rfl
  have c2 := hcs i l hi 2 _ rfl
  simp only [Nat.add_zero] at c0 c1 c2
  have HLe := Lib.hid hLe
  subst hLe
  have r1 := (HW.out _ (Below.refl _ _)).2
  rw [HW1.out] at r1 c0 c1 c2
  rw [HN.out] at r1
  unfold Row at r1
  clear hP hp hL hl hG hg hpn hrow hi hm hT hN hW1 hb1 bN hnl hnm hnp hcs
  go_enter Tryz.func92, Tryz.ntmps92
  go_upto_region 3 with fail
  rw [← HW1.out, ← HN.out]
  clear r1 c0 c1 c2
  obtain ⟨X, hX⟩ : ∃ X, X = N + 1 := ⟨_, rfl⟩
  generalize hWa : World.alloc _ _ = Wa
  have bX : Blk Wa X 60 [.int .i64 l.fr, .int .i64 l.tt, .int .i64 l.ls] := by rw [← hWa]; exact Blk.new2 _ [.int .i64 l.fr, .int .i64 l.tt, .int .i64 l.ls] (by rw [hX, hz1])
  have hBa : Below W1.heap.size W1 Wa := by rw [← hWa]; exact (Below.refl _ _).alloc (Nat.le_refl _) _
  rw [← hX]
  clear hWa hX hz1
  have rX := bX.row
  unfold Row at rX
  go_wp2_with fail
  refine (Con.out _ _ hBa).mono ?_
  rintro e w2 ⟨rfl, hb2⟩
  have hB2 : Below W1.heap.size W1 w2 := hBa.trans (hb2.mono hBa.size)
  have bX2 := bX.below hb2 bX.lt
  clear rX bX
  have rX := bX2.row
  unfold Row at rX
  cases c1 : Nd.inB l.fr 0 (nodes - 1) with
  | false =>
    have hf : Hid (T = 2) := Lib.hid (by rw [HT.out]; unfold lkE; rw [if_pos (by unfold lkB; rw [c1]; rfl)])
    go_wp2_with fail
    go_ret
    exact ⟨ret_int (by rw [hf.out]), (HW.out _ hB2).1⟩
  | true =>
    go_wp2_with fail
    refine (Con.out _ _ hB2).mono ?_
    rintro e w3 ⟨rfl, hb3⟩
    have hB3 : Below W1.heap.size W1 w3 := hB2.trans (hb3.mono hB2.size)
    have bX3 := bX2.below hb3 bX2.lt
    clear rX bX2 hBa hb2 Con
    have rX := bX3.row
    unfold Row at rX
    cases c2 : Nd.inB l.tt 0 (nodes - 1) with
    | false =>
      have hf : Hid (T = 2) := Lib.hid (by rw [HT.out]; unfold lkE; rw [if_pos (by unfold lkB; rw [c1, c2]; rfl)])
      go_wp2_with fail
      go_ret
      exact ⟨ret_int (by rw [hf.out]), (HW.out _ hB3).1⟩
    | true =>
      cases c3 : (l.fr == l.tt) with
      | true =>
        have hf : Hid (T = 2) := Lib.hid (by rw [HT.out]; unfold lkE; rw [if_pos (by unfold lkB; rw [c1, c2, c3]; rfl)])
        go_wp2_with fail
        go_ret
        exact ⟨ret_int (by rw [hf.out]), (HW.out _ hB3).1⟩
      | false =>
        by_cases d4 : l.ls < 0
        · have e4 : decide (l.ls < 0) = true := decide_eq_true d4
          have c4 : Nd.inB l.ls 0 7 = false := by unfold Nd.inB; rw [decide_eq_false (by omega)]; rfl
          have hf : Hid (T = 2) := Lib.hid (by rw [HT.out]; unfold lkE; rw [if_pos (by unfold lkB; rw [c1, c2, c3, c4]; rfl)])
          go_wp2_with fail
          go_ret
          exact ⟨ret_int (by rw [hf.out]), (HW.out _ hB3).1⟩
        have e4 : decide (l.ls < 0) = false := decide_eq_false d4
        by_cases d5 : 7 < l.ls
        · have e5 : decide (7 < l.ls) = true := decide_eq_true d5
          have c4 : Nd.inB l.ls 0 7 = false := by unfold Nd.inB; rw [decide_eq_false (p := l.ls ≤ 7) (by omega), Bool.and_false]
          have hf : Hid (T = 2) := Lib.hid (by rw [HT.out]; unfold lkE; rw [if_pos (by unfold lkB; rw [c1, c2, c3, c4]; rfl)])
          go_wp2_with fail
          go_ret
          exact ⟨ret_int (by rw [hf.out]), (HW.out _ hB3).1⟩
        have e5 : decide (7 < l.ls) = false := decide_eq_false d5
        have c4 : Nd.inB l.ls 0 7 = true := by unfold Nd.inB; rw [decide_eq_true (p := 0 ≤ l.ls) (by omega), decide_eq_true (p := l.ls ≤ 7) (by omega)]; rfl
        have HT2 : Hid (T = if prevBadL (prevL lk i) l = true then 5 else if m < 0 ∨ powAt (pw.map PRow.l) l.fr l.tt < m then 2 else 0) := Lib.hid (by rw [HT.out]; unfold lkE; rw [if_neg (by unfold lkB; rw [c1, c2, c3, c4]; decide)])
        have HI1 := Lib.hid (show (0 ≤ l.fr ∧ l.fr ≤ nodes - 1) ∧ (0 ≤ l.tt ∧ l.tt ≤ nodes - 1) from by
          simp only [Nd.inB, Bool.and_eq_true, decide_eq_true_eq] at c1 c2
          exact ⟨c1, c2⟩)
        clear HT c4 d4 d5 c1 c2
        go_upto_region 5 with fail
        clear rX e4 e5 c3
        have rX3 := bX3.row
        have rN3 := (HW.out _ hB3).2
        have hXl : X < w3.heap.size := bX3.lt
        have hNl3 : N < w3.heap.size := by have := hB3.size; omega
        have HB3s := Lib.hid (Nat.le_refl w3.heap.size)
        have yN : ∀ (x' : ExtW w3.heap.size w3) (j : Nat), x'.val.cell? ⟨N, j, none⟩ = _ := fun x' j => (x'.cell _ hNl3).trans (rN3 j)
        have yX : ∀ (x' : ExtW w3.heap.size w3) (j : Nat), x'.val.cell? ⟨X, j, none⟩ = _ := fun x' j => (x'.cell _ hXl).trans (rX3 j)
        go_cut [43] (fun s43 W => s43 = .bool (prevBadL (prevL lk i) l) ∧ Below w3.heap.size w3 W)
        case first =>
          cases i with
          | zero =>
            refine wp_region_ext w3.heap.size (by kernel_rfl) (by kernel_rfl) ?_
            repeat (go_big_quiet_step (fail))
            refine wpQuiet_nil ?_
            rintro _ ⟨x', rfl⟩
            go_wp2_with fail
            go_meet
            exact ⟨rfl, x'.below⟩
          | succ k =>
            obtain ⟨q, hq⟩ := get_of_lt (l := lk) (k := k) (by have := HNl.out; omega)
            obtain ⟨lb', loff', he', hlB', hcs'⟩ := (HL.out _ hB3).at_ hq
            have hval : prevBadL (prevL lk (k + 1)) l = decide (0 ≤ orI [Rc.cmpI q.fr l.fr, Rc.cmpI q.tt l.tt]) := by
              rw [prevL_eq]
              unfold prevL
              rw [if_neg (by omega), Nat.add_sub_cancel, hq]
            have HVal := Lib.hid hval
            clear hval
            simp only [Option.some.injEq, Addr.mk.injEq, and_true] at he'
            obtain ⟨rfl, rfl⟩ := he'
            have q0 := hcs' k q hq 0 _ rfl
            have q1 := hcs' k q hq 1 _ rfl
            have q2 := hcs' k q hq 2 _ rfl
            simp only [Nat.add_zero] at q0 q1 q2
            have y0 : ∀ (x' : ExtW w3.heap.size w3), x'.val.cell? ⟨lb, loff + k * 3, none⟩ = some (.int .i64 q.fr) := fun x' => (x'.cell _ hlB').trans q0
            have y1 : ∀ (x' : ExtW w3.heap.size w3), x'.val.cell? ⟨lb, loff + k * 3 + 1, none⟩ = some (.int .i64 q.tt) := fun x' => (x'.cell _ hlB').trans q1
            have y2 : ∀ (x' : ExtW w3.heap.size w3), x'.val.cell? ⟨lb, loff + k * 3 + 2, none⟩ = some (.int .i64 q.ls) := fun x' => (x'.cell _ hlB').trans q2
            have Con2 := Lib.hid (fun W => ncompare_any q l W)
            generalize orI [Rc.cmpI q.fr l.fr, Rc.cmpI q.tt l.tt] = V at *
            have hkl : k < nl := by omega
            have hw1 : IntKind.i64.wrap (((k + 1 : Nat) : Int) - 1) = (k : Int) := by rw [IntWalk.i64_in _ (by omega)]; omega
            have hd1 : decide ((0 : Int) < ((k + 1 : Nat) : Int)) = true := decide_eq_true (by omega)
            have hd2 : decide ((0 : Int) < (k : Int) + 1) = true := decide_eq_true (by omega)
            have hw2 : IntKind.i64.wrap ((k : Int) + 1 - 1) = (k : Int) := by rw [IntWalk.i64_in _ (by omega)]; omega
            clear q0 q1 q2 hcs' hq
            refine wp_region_ext w3.heap.size (by kernel_rfl) (by kernel_rfl) ?_
            repeat (go_big_quiet_step ((go_at_call 113; exact Calls.ext_of (Con2.out _) HB3s.out)))
            refine wpQuiet_nil ?_
            rintro _ ⟨x', rfl⟩
            go_wp2_with fail
            go_meet
            exact ⟨by rw [HVal.out], x'.below⟩
        case rest =>
          obtain ⟨rfl, hb4⟩ := hcut
          clear yN yX
          have hB4 : Below W1.heap.size W1 wc := hB3.trans (hb4.mono hB3.size)
          cases hpb : prevBadL (prevL lk i) l with
          | true =>
            have hf : Hid (T = 5) := Lib.hid (by rw [HT2.out, hpb]; rfl)
            go_wp2_with fail
            go_ret
            exact ⟨ret_int (by rw [hf.out]), (HW.out _ hB4).1⟩
          | false =>
            obtain ⟨p, v, hp, hv, hpv⟩ := pow_at HPn.out.1 HPn.out.2 HI1.out.1 HI1.out.2
            have HT3 : Hid (T = if m < 0 ∨ v < m then 2 else 0) := Lib.hid (by rw [HT2.out, hpb, hpv]; rfl)
            obtain ⟨fa, hfa⟩ : ∃ a : Nat, l.fr = (a : Int) := ⟨l.fr.toNat, by have := HI1.out; omega⟩
            obtain ⟨ta, hta⟩ : ∃ a : Nat, l.tt = (a : Int) := ⟨l.tt.toNat, by have := HI1.out; omega⟩
            rw [hfa, Int.toNat_natCast] at hp
            rw [hta, Int.toNat_natCast] at hv
            have hrl : ((p.l.length : Nat) : Int) = nodes := HPn.out.2 p (List.mem_of_getElem? hp)
            obtain ⟨pb, poff, hPe, hpB, hpcs⟩ := (HP.out _ hB4).1.at_ hp
            have pc := hpcs fa p hp 0 _ rfl
            simp only [Nat.mul_one, Nat.add_zero] at pc
            obtain ⟨vb, voff, hVe, hvB, hvc⟩ := ((HP.out _ hB4).2 p (List.mem_of_getElem? hp)).1.at_ hv
            have vc := hvc ta v hv
            obtain ⟨gb, goff, hGe, hgB, hgc⟩ := (HGm.out _ hB4).at_ HMm.out
            have gc := hgc i m HMm.out
            have rN4 := (HW.out _ hB4).2
            have rX4 := (bX3.below hb4 hXl).row
            have hfl : fa < np := by have := HI1.out; have := HPn.out.1; have := HNp.out; omega
            obtain ⟨rl, hrle⟩ : ∃ rl, rl = p.l.length := ⟨_, rfl⟩
            have htl : ta < rl := by have := HI1.out; omega
            rw [← hrle] at pc
            rw [hVe] at pc
            have hXl4 : X < wc.heap.size := Nat.lt_of_lt_of_le hXl hb4.size
            have hNl4 : N < wc.heap.size := Nat.lt_of_lt_of_le hNl3 hb4.size
            subst hPe hGe
            rw [hfa, hta] at rX4
            have yN : ∀ (x' : ExtW wc.heap.size wc) (j : Nat), x'.val.cell? ⟨N, j, none⟩ = _ := fun x' j => (x'.cell _ hNl4).trans (rN4 j)
            have yX : ∀ (x' : ExtW wc.heap.size wc) (j : Nat), x'.val.cell? ⟨X, j, none⟩ = _ := fun x' j => (x'.cell _ hXl4).trans (rX4 j)
            have yp : ∀ (x' : ExtW wc.heap.size wc), x'.val.cell? ⟨pb, poff + fa, none⟩ = some (.slice (some ⟨vb, voff, none⟩) rl p.c) := fun x' => (x'.cell _ hpB).trans pc
            have yv : ∀ (x' : ExtW wc.heap.size wc), x'.val.cell? ⟨vb, voff + ta, none⟩ = some (.int .i64 v) := fun x' => (x'.cell _ hvB).trans vc
            have yg : ∀ (x' : ExtW wc.heap.size wc), x'.val.cell? ⟨gb, goff + i, none⟩ = some (.int .i64 m) := fun x' => (x'.cell _ hgB).trans gc
            clear hpcs pc hvc vc hgc gc rN4 rX4 hpv hrl hfa hta hp hv hrle hVe HT2 hpb
            go_upto_region 7 with fail
            by_cases d6 : m < 0
            · have e6 : decide (m < 0) = true := decide_eq_true d6
              have hf : Hid (T = 2) := Lib.hid (by rw [HT3.out, if_pos (.inl d6)])
              clear d6
              refine wp_region_ext wc.heap.size (by kernel_rfl) (by kernel_rfl) ?_
              repeat (go_big_quiet_step (fail))
              refine wpQuiet_nil ?_
              rintro _ ⟨x', rfl⟩
              have hfin := (HW.out _ (hB4.trans (x'.below.mono hB4.size))).1
              go_wp2_with fail
              go_ret
              exact ⟨ret_int (by rw [hf.out]), hfin⟩
            · have e6 : decide (m < 0) = false := decide_eq_false d6
              by_cases d7 : v < m
              · have e7 : decide (v < m) = true := decide_eq_true d7
                have hf : Hid (T = 2) := Lib.hid (by rw [HT3.out, if_pos (.inr d7)])
                clear d6 d7
                refine wp_region_ext wc.heap.size (by kernel_rfl) (by kernel_rfl) ?_
                repeat (go_big_quiet_step (fail))
                refine wpQuiet_nil ?_
                rintro _ ⟨x', rfl⟩
                have hfin := (HW.out _ (hB4.trans (x'.below.mono hB4.size))).1
                go_wp2_with fail
                go_ret
                exact ⟨ret_int (by rw [hf.out]), hfin⟩
              · have e7 : decide (v < m) = false := decide_eq_false d7
                have hf : Hid (T = 0) := Lib.hid (by rw [HT3.out, if_neg (by omega)])
                clear d6 d7
                refine wp_region_ext wc.heap.size (by kernel_rfl) (by kernel_rfl) ?_
                repeat (go_big_quiet_step (fail))
                refine wpQuiet_nil ?_
                rintro _ ⟨x', rfl⟩
                have hfin := (HW.out _ (hB4.trans (x'.below.mono hB4.size))).1
                go_wp2_with fail
                go_ret
                exact ⟨ret_int (by rw [hf.out]), hfin⟩
end Go.Proofs.YticnppnejafhdaaGreatDoor
/- Walk: package network: Check. -/
namespace Go.Proofs.YticnppnejafhdaaGreatDoor
open Go.RowKit
open Nd Rc Mo

theorem powE_zero {nodes : Int} {pow : List (List Int)} (h : powE nodes pow = 0) : ((pow.length : Nat) : Int) = nodes ∧ (∀ r ∈ pow, ((r.length : Nat) : Int) = nodes) ∧ ∀ r ∈ pow, ∀ p ∈ r, 0 ≤ p ∧ p ≤ 68719476736 := by
  unfold powE at h
  split at h
  · cases h
  · rename_i h1
    split at h
    · cases h
    · rename_i h2
      refine ⟨Classical.byContradiction fun hh => h1 (.inl hh), fun r hr => ?_, fun r hr p hp => ?_⟩
      · refine Classical.byContradiction fun hh => h1 (.inr (List.any_eq_true.2 ⟨r, hr, by simpa using hh⟩))
      · refine Classical.byContradiction fun hh => h2 (List.any_eq_true.2 ⟨r, hr, List.any_eq_true.2 ⟨p, hp, ?_⟩⟩)
        unfold outP
        rw [Bool.or_eq_true, decide_eq_true_eq, decide_eq_true_eq]
        omega
theorem prevL_succ {lk : List Lk} {k : Nat} {l : Lk} (h : lk[k]? = some l) : prevL lk (k + 1) = some l := by
  unfold prevL
  rw [if_neg (by omega), Nat.add_sub_cancel, h]

set_option maxRecDepth 100000 in
set_option maxHeartbeats 4000000 in
theorem netCheck_any (nodes noise thr : Int) (pw : List PRow) (lk : List Lk) (mg : List Int) (P L G : Option Addr) (cp cl cg : Nat) (w : World) (hP : LiesP w w.heap.size P pw) (hp : pw.length ≤ 1000000) (hL : Lies w w.heap.size 3 L (lk.map Lk.row)) (hl : lk.length ≤ 1000000) (hG : LiesI w w.heap.size G mg) (hg : mg.length ≤ 1000000) :
    Calls Tryz.prog 55 #[.agg #[.int .i64 nodes, .slice P pw.length cp, .int .i64 noise, .int .i64 thr, .slice L lk.length cl, .slice G mg.length cg]] w fun e w' => e = .returned (.int .i64 (chkN ⟨nodes, noise, thr, pw.map PRow.l, lk, mg⟩)) ∧ Below w.heap.size w w' := by
  obtain ⟨np, hnp⟩ : ∃ n, n = pw.length := ⟨_, rfl⟩
  obtain ⟨nl, hnl⟩ : ∃ n, n = lk.length := ⟨_, rfl⟩
  obtain ⟨nm, hnm⟩ : ∃ n, n = mg.length := ⟨_, rfl⟩
  obtain ⟨T, hT⟩ : ∃ T, T = chkN ⟨nodes, noise, thr, pw.map PRow.l, lk, mg⟩ := ⟨_, rfl⟩
  obtain ⟨N, hN⟩ : ∃ N, N = w.heap.size := ⟨_, rfl⟩
  rw [← hT, ← hnp, ← hnl, ← hnm]
  unfold chkN at hT
  dsimp only at hT
  rw [← hnl, ← hnm] at hT
  obtain ⟨W1, hW1⟩ : ∃ W1, W1 = w.alloc (.cells #[.int .i64 nodes, .slice P np cp, .int .i64 noise, .int .i64 thr, .slice L nl cl, .slice G nm cg] 26) := ⟨_, rfl⟩
  have hb1 : Below N w W1 := by rw [hW1, hN]; exact (Below.refl _ _).alloc (Nat.le_refl _) _
  have bN : Blk W1 N 26 [.int .i64 nodes, .slice P np cp, .int .i64 noise, .int .i64 thr, .slice L nl cl, .slice G nm cg] := by rw [hW1]; exact Blk.new2 _ [.int .i64 nodes, .slice P np cp, .int .i64 noise, .int .i64 thr, .slice L nl cl, .slice G nm cg] hN
  have HW := Lib.hid (fun W (h' : Below W1.heap.size W1 W) => (show Below w.heap.size w W ∧ Row W N [.int .i64 nodes, .slice P np cp, .int .i64 noise, .int .i64 thr, .slice L nl cl, .slice G nm cg] from ⟨by rw [← hN]; exact hb1.trans (h'.mono (by have := bN.lt; omega)), (bN.below h' bN.lt).row⟩))
  have HPw := Lib.hid (cpow_any nodes noise thr pw lk mg P L G cp cl cg W1 (hP.later (HW.out _ (Below.refl _ _)).1) hp)
  have HLk := Lib.hid (fun (hpn : ((pw.length : Nat) : Int) = nodes) (hrow : ∀ p ∈ pw, ((p.l.length : Nat) : Int) = nodes) (he : mg.length = lk.length) i l m (hi : lk[i]? = some l) (hm : mg[i]? = some m) W (h' : Below W1.heap.size W1 W) => clink_any nodes noise thr pw lk mg P L G cp cl cg i l m W (hP.later (HW.out W h').1) hp ((hL.below (HW.out W h').1).more (HW.out W h').1.size) hl ((hG.below (HW.out W h').1).more (HW.out W h').1.size) he hpn hrow hi hm)
  rw [← hnp, ← hnl, ← hnm] at HPw HLk
  have hl6 : nl ≤ 1000000 := by omega
  have HT := Lib.hid hT
  have HNl := Lib.hid hnl
  have HNm := Lib.hid hnm
  have HNp := Lib.hid hnp
  have HN := Lib.hid hN
  have HW1 := Lib.hid hW1
  have hNl := bN.lt
  have r1 := (HW.out _ (Below.refl _ _)).2
  rw [HW1.out] at r1
  rw [HN.out] at r1
  unfold Row at r1
  clear hP hp hL hl hG hg hT hN hW1 hb1 bN hnl hnm hnp
  go_enter Tryz.func55, Tryz.ntmps55
  by_cases g1 : nodes < 2
  · have d1 : decide (nodes < 2) = true := decide_eq_true g1
    have hf : Hid (T = 2) := Lib.hid (by rw [HT.out, if_pos (.inl g1)])
    clear g1
    go_wp2_with fail
    go_ret
    exact ⟨ret_int (by rw [hf.out]), by rw [← HW1.out]; exact (HW.out _ (Below.refl _ _)).1⟩
  have d1 : decide (nodes < 2) = false := decide_eq_false g1
  by_cases g2 : 32 < nodes
  · have d2 : decide (32 < nodes) = true := decide_eq_true g2
    have hf : Hid (T = 2) := Lib.hid (by rw [HT.out, if_pos (.inr g2)])
    clear g1 g2
    go_wp2_with fail
    go_ret
    exact ⟨ret_int (by rw [hf.out]), by rw [← HW1.out]; exact (HW.out _ (Below.refl _ _)).1⟩
  have d2 : decide (32 < nodes) = false := decide_eq_false g2
  have HT1 : Hid (T = if powE nodes (pw.map PRow.l) ≠ 0 then powE nodes (pw.map PRow.l) else if Nd.inB noise 0 68719476736 = false ∨ Nd.inB thr 1000 100000 = false then 2 else if 128 < nl then 8 else if nm ≠ nl then 11 else lkGo nodes (pw.map PRow.l) none lk mg) := Lib.hid (by rw [HT.out, if_neg (by omega)])
  clear HT g1 g2
  go_wp2_with fail
  rw [← HW1.out, ← HN.out]
  refine HPw.out.mono ?_
  rintro e w2 ⟨rfl, hb2⟩
  clear HPw d1 d2 r1
  have r1 := (HW.out _ hb2).2
  unfold Row at r1
  obtain ⟨E, hE⟩ : ∃ E, E = powE nodes (pw.map PRow.l) := ⟨_, rfl⟩
  have HE := Lib.hid hE
  rw [← hE] at HT1 ⊢
  clear hE
  by_cases g3 : E = 0
  case neg =>
    have d3 : (E != 0) = true := by simpa using g3
    have hf : Hid (T = E) := Lib.hid (by rw [HT1.out, if_pos g3])
    clear g3
    go_wp2_with fail
    go_ret
    exact ⟨ret_int (by rw [hf.out]), (HW.out _ hb2).1⟩
  have d3 : (E != 0) = false := by simpa using g3
  have HT2 : Hid (T = if Nd.inB noise 0 68719476736 = false ∨ Nd.inB thr 1000 100000 = false then 2 else if 128 < nl then 8 else if nm ≠ nl then 11 else lkGo nodes (pw.map PRow.l) none lk mg) := Lib.hid (by rw [HT1.out, if_neg (by simpa using g3)])
  have HPz := Lib.hid (powE_zero (by rw [← HE.out]; exact g3 : powE nodes (pw.map PRow.l) = 0))
  clear HT1 g3 HE
  by_cases g4 : noise < 0
  · have dg4 : decide (noise < 0) = true := decide_eq_true g4
    have hf : Hid (T = 2) := Lib.hid (by rw [HT2.out, if_pos (.inl (by unfold Nd.inB; rw [decide_eq_false (p := 0 ≤ noise) (by omega)]; rfl))])
    clear g4
    go_wp2_with fail
    go_ret
    exact ⟨ret_int (by rw [hf.out]), (HW.out _ hb2).1⟩
  have dg4 : decide (noise < 0) = false := decide_eq_false g4
  by_cases g5 : 68719476736 < noise
  · have dg5 : decide (68719476736 < noise) = true := decide_eq_true g5
    have hf : Hid (T = 2) := Lib.hid (by rw [HT2.out, if_pos (.inl (by unfold Nd.inB; rw [decide_eq_false (p := noise ≤ 68719476736) (by omega), Bool.and_false]))])
    clear g4 g5
    go_wp2_with fail
    go_ret
    exact ⟨ret_int (by rw [hf.out]), (HW.out _ hb2).1⟩
  have dg5 : decide (68719476736 < noise) = false := decide_eq_false g5
  by_cases g6 : thr < 1000
  · have dg6 : decide (thr < 1000) = true := decide_eq_true g6
    have hf : Hid (T = 2) := Lib.hid (by rw [HT2.out, if_pos (.inr (by unfold Nd.inB; rw [decide_eq_false (p := 1000 ≤ thr) (by omega)]; rfl))])
    clear g4 g5 g6
    go_wp2_with fail
    go_ret
    exact ⟨ret_int (by rw [hf.out]), (HW.out _ hb2).1⟩
  have dg6 : decide (thr < 1000) = false := decide_eq_false g6
  by_cases g7 : 100000 < thr
  · have dg7 : decide (100000 < thr) = true := decide_eq_true g7
    have hf : Hid (T = 2) := Lib.hid (by rw [HT2.out, if_pos (.inr (by unfold Nd.inB; rw [decide_eq_false (p := thr ≤ 100000) (by omega), Bool.and_false]))])
    clear g4 g5 g6 g7
    go_wp2_with fail
    go_ret
    exact ⟨ret_int (by rw [hf.out]), (HW.out _ hb2).1⟩
  have dg7 : decide (100000 < thr) = false := decide_eq_false g7
  have HT3 : Hid (T = if 128 < nl then 8 else if nm ≠ nl then 11 else lkGo nodes (pw.map PRow.l) none lk mg) := Lib.hid (by rw [HT2.out, if_neg (by unfold Nd.inB; rw [decide_eq_true (p := 0 ≤ noise) (by omega), decide_eq_true (p := noise ≤ 68719476736) (by omega), decide_eq_true (p := 1000 ≤ thr) (by omega), decide_eq_true (p := thr ≤ 100000) (by omega)]; decide)])
  clear HT2 g4 g5 g6 g7
  by_cases g8 : 128 < nl
  · have d8 : decide ((128 : Int) < (nl : Int)) = true := decide_eq_true (by omega)
    have d8' : decide (128 < nl) = true := decide_eq_true g8
    have hf : Hid (T = 8) := Lib.hid (by rw [HT3.out, if_pos g8])
    go_wp2_with fail
    go_ret
    exact ⟨ret_int (by rw [hf.out]), (HW.out _ hb2).1⟩
  have d8 : decide ((128 : Int) < (nl : Int)) = false := decide_eq_false (by omega)
  have d8' : decide (128 < nl) = false := decide_eq_false g8
  by_cases g9 : nm = nl
  case neg =>
    have hf : Hid (T = 11) := Lib.hid (by rw [HT3.out, if_neg g8, if_pos g9])
    have d9 : ((nm : Int) != (nl : Int)) = true := by simp; omega
    have d9' : ¬ (nm : Int) = (nl : Int) := by omega
    go_wp2_with fail
    go_ret
    exact ⟨ret_int (by rw [hf.out]), (HW.out _ hb2).1⟩
  have HT4 : Hid (T = lkGo nodes (pw.map PRow.l) none lk mg) := Lib.hid (by rw [HT3.out, if_neg g8, if_neg (by simpa using g9)])
  have HL2 := Lib.hid (HLk.out (by have := HPz.out.1; rw [List.length_map, ← HNp.out] at this; exact this) (fun p hp => HPz.out.2.1 _ (List.mem_map_of_mem hp)) g9)
  subst g9
  have d9 : ((nm : Int) != (nm : Int)) = false := by simp
  clear HT3 HLk HPz g8
  go_wp2_with fail
  clear r1
  go_loopw [54] (fun i wr => ∃ (k : Nat), k ≤ nm ∧ i = .int .i64 k ∧ Below W1.heap.size W1 wr ∧ Hid (T = lkGo nodes (pw.map PRow.l) (prevL lk k) (lk.drop k) (mg.drop k))) (fun i _ => nm - (intOf i).toNat)
  case atStart => exact ⟨0, by omega, rfl, hb2, Lib.hid (by rw [HT4.out]; rfl)⟩
  case round =>
    clear HT4 hb2
    obtain ⟨k, hk, rfl, hb, HS⟩ := hrel
    by_cases hlt : k < nm
    · obtain ⟨l, hlk⟩ := get_of_lt (l := lk) (k := k) (by rw [← HNl.out]; exact hlt)
      obtain ⟨m, hmk⟩ := get_of_lt (l := mg) (k := k) (by rw [← HNm.out]; exact hlt)
      have Con := Lib.hid (HL2.out k l m hlk hmk wr hb)
      have HS2 : Hid (T = if lkE nodes (pw.map PRow.l) (prevL lk k) l m = 0 then lkGo nodes (pw.map PRow.l) (prevL lk (k + 1)) (lk.drop (k + 1)) (mg.drop (k + 1)) else lkE nodes (pw.map PRow.l) (prevL lk k) l m) := Lib.hid (by
        rw [HS.out, drop_of_get hlk, drop_of_get hmk, prevL_succ hlk]
        rfl)
      obtain ⟨V, hV⟩ : ∃ V, V = lkE nodes (pw.map PRow.l) (prevL lk k) l m := ⟨_, rfl⟩
      rw [← hV] at HS2 Con
      have r1 := (HW.out _ hb).2
      unfold Row at r1
      clear HS hV hlk hmk
      go_wp2_with fail
      refine Con.out.mono ?_
      rintro e w4 ⟨rfl, hb4⟩
      have hB4 : Below W1.heap.size W1 w4 := hb.trans (hb4.mono hb.size)
      clear r1 Con
      by_cases hV0 : V = 0
      · have dv : (V != 0) = false := by simpa using hV0
        have hf := Lib.hid (show T = lkGo nodes (pw.map PRow.l) (prevL lk (k + 1)) (lk.drop (k + 1)) (mg.drop (k + 1)) by rw [HS2.out, if_pos hV0])
        clear HS2 hV0
        go_wp2_with fail
        go_roundw
        case rel => exact ⟨k + 1, by omega, by go_num, hB4, hf⟩
        case measure => simp [intOf]; omega
      · have dv : (V != 0) = true := by simpa using hV0
        have hf := Lib.hid (show T = V by rw [HS2.out, if_neg hV0])
        clear HS2 hV0
        go_wp2_with fail
        go_ret
        exact ⟨ret_int (by rw [hf.out]), (HW.out _ hB4).1⟩
    · have hf : Hid (T = 0) := Lib.hid (by rw [HS.out, List.drop_of_length_le (by rw [← HNl.out]; omega)]; rfl)
      go_wp2_with fail
      go_ret
      exact ⟨ret_int (by rw [hf.out]), (HW.out _ hb).1⟩
end Go.Proofs.YticnppnejafhdaaGreatDoor
/- Networks as abstract data; network.Check lifted. -/
namespace Go.Proofs.YticnppnejafhdaaGreatDoor
open Go.RowKit
open Nd Rc Mo
open Av
set_option maxRecDepth 100000

def Mo.Lk.pv (x : Lk) : List PV := [ip x.fr, ip x.tt, ip x.ls]
def irow_pv (x : Int) : List PV := [ip x]
def prow_pv (l : List Int) : List PV := [.sl 1 (l.map irow_pv)]
def Mo.Net.pv (n : Net) : List PV := [ip n.nodes, .sl 1 (n.pow.map prow_pv), ip n.noise, ip n.thr, .sl 3 (n.lk.map Lk.pv), .sl 1 (n.mg.map irow_pv)]
theorem ints_rep {w : World} {R : Reader} {l : List Int} {u : Value} (hR : ∀ p v, R p = some v → w.cell? p = some v) (h : RepP R (.sl 1 (l.map irow_pv)) u) : ∃ A c, u = .slice A l.length c ∧ LiesI w w.heap.size A l := by
  rw [map_pv (f := irow_pv) (g := irow) (fun _ => rfl)] at h
  obtain ⟨A, c, rfl, hA⟩ := lies_of_rep hR (by decide) h
  rw [List.length_map]
  exact ⟨A, c, rfl, hA⟩
theorem links_rep {w : World} {R : Reader} {l : List Lk} {u : Value} (hR : ∀ p v, R p = some v → w.cell? p = some v) (h : RepP R (.sl 3 (l.map Lk.pv)) u) : ∃ A c, u = .slice A l.length c ∧ Lies w w.heap.size 3 A (l.map Lk.row) := by
  rw [map_pv (f := Lk.pv) (g := Lk.row) (fun _ => rfl)] at h
  obtain ⟨A, c, rfl, hA⟩ := lies_of_rep hR (by decide) h
  rw [List.length_map]
  exact ⟨A, c, rfl, hA⟩
theorem prows {w : World} {B : Nat} : ∀ (pow : List (List Int)) (g : Nat → Value), (∀ k l, pow[k]? = some l → ∃ A c, g k = .slice A l.length c ∧ LiesI w B A l) → (∀ l ∈ pow, l.length ≤ 1000000) → ∃ pw : List PRow, pw.map PRow.l = pow ∧ (∀ k p, pw[k]? = some p → g k = .slice p.A p.l.length p.c) ∧ ∀ p ∈ pw, LiesI w B p.A p.l ∧ p.l.length ≤ 1000000
  | [], g, _, _ => ⟨[], rfl, fun k p h => by simp at h, fun p h => by cases h⟩
  | l :: pow, g, h, hl => by
    obtain ⟨A, c, h1, h2⟩ := h 0 l rfl
    obtain ⟨pw, h3, h4, h5⟩ := prows pow (fun k => g (k + 1)) (fun k l' hk => h (k + 1) l' (by simpa using hk)) (fun l' hl' => hl l' (List.mem_cons_of_mem _ hl'))
    refine ⟨⟨l, A, c⟩ :: pw, by rw [List.map_cons, h3], fun k p hk => ?_, fun p hp => ?_⟩
    · cases k with
      | zero => simp at hk; subst hk; exact h1
      | succ k => exact h4 k p (by simpa using hk)
    · rcases List.mem_cons.1 hp with rfl | hp
      · exact ⟨h2, hl l List.mem_cons_self⟩
      · exact h5 p hp
theorem pow_rep {w : World} {R : Reader} {pow : List (List Int)} {u : Value} (hR : ∀ p v, R p = some v → w.cell? p = some v) (hl : ∀ l ∈ pow, l.length ≤ 1000000) (h : RepP R (.sl 1 (pow.map prow_pv)) u) : ∃ A c pw, u = .slice A pow.length c ∧ pw.map PRow.l = pow ∧ LiesP w w.heap.size A pw := by
  generalize hrows : pow.map prow_pv = rows at h
  cases h with
  | sl _ _ A cap f hsz hA hf hc =>
    have hlen : rows.length = pow.length := by rw [← hrows]; simp
    have hget : ∀ k l, pow[k]? = some l → rows[k]? = some (prow_pv l) := fun k l hk => by rw [← hrows, List.getElem?_map, hk]; rfl
    obtain ⟨pw, h1, h2, h3⟩ := prows (w := w) (B := w.heap.size) pow (fun k => f k 0) (fun k l hk => ints_rep hR (hf k _ 0 _ (hget k l hk) rfl)) hl
    refine ⟨A, cap, pw, by rw [hlen], h1, fun hne => ?_, h3⟩
    rcases hA with h0 | ⟨b, off, rfl, hA⟩
    · exfalso
      apply hne
      rw [h0] at hlen
      have : pow = [] := List.eq_nil_of_length_eq_zero hlen.symm
      rw [this] at h1
      rw [List.map_eq_nil_iff.1 h1]; rfl
    · have hcell : ∀ (k : Nat) (row : List Value), (pw.map PRow.row)[k]? = some row → ∀ (j : Nat) (x : Value), row[j]? = some x → w.cell? ⟨b, off + k * 1 + j, none⟩ = some x := fun k row hk j x hj => by
        rw [List.getElem?_map] at hk
        obtain ⟨p, hp, rfl⟩ := Option.map_eq_some_iff.1 hk
        have hpl : pow[k]? = some p.l := by rw [← h1, List.getElem?_map, hp]; rfl
        cases j with
        | zero =>
          simp [PRow.row] at hj
          subst hj
          have := hA k _ 0 _ (hget k p.l hpl) rfl
          rw [h2 k p hp] at this
          exact hR _ _ this
        | succ j => simp [PRow.row] at hj
      refine ⟨b, off, rfl, ?_, hcell⟩
      cases hpw : pw with
      | nil => rw [hpw] at hne; exact absurd rfl hne
      | cons p pw' => exact Rel.cell_lt (hcell 0 p.row (by rw [hpw]; rfl) 0 _ rfl)
theorem net_rep {w : World} {R : Reader} {bx : Nat → Nat} {n : Net} {u : Value} (hR : ∀ p v, R p = some v → w.cell? p = some v) (hl : ∀ l ∈ n.pow, l.length ≤ 1000000) (h : RepA R bx (.agg n.pv) u) :
    ∃ P L G cp cl cg pw, u = .agg #[.int .i64 n.nodes, .slice P n.pow.length cp, .int .i64 n.noise, .int .i64 n.thr, .slice L n.lk.length cl, .slice G n.mg.length cg] ∧ pw.map PRow.l = n.pow ∧ LiesP w w.heap.size P pw ∧ Lies w w.heap.size 3 L (n.lk.map Lk.row) ∧ LiesI w w.heap.size G n.mg := by
  obtain ⟨us, rfl, h⟩ := h
  cases h with
  | cons h1 h =>
  cases h with
  | cons h2 h =>
  cases h with
  | cons h3 h =>
  cases h with
  | cons h4 h =>
  cases h with
  | cons h5 h =>
  cases h with
  | cons h6 h =>
    cases h
    cases h1
    cases h3
    cases h4
    obtain ⟨P, cp, pw, rfl, e1, e2⟩ := pow_rep hR hl h2
    obtain ⟨L, cl, rfl, e3⟩ := links_rep hR h5
    obtain ⟨G, cg, rfl, e4⟩ := ints_rep hR h6
    exact ⟨P, L, G, cp, cl, cg, pw, rfl, e1, e2, e3, e4⟩
theorem ncheck_ok (n : Net) (hp : n.pow.length ≤ 1000000) (hl : ∀ l ∈ n.pow, l.length ≤ 1000000) (hk : n.lk.length ≤ 1000000) (hg : n.mg.length ≤ 1000000) : FnOK Tryz.prog 55 [.agg n.pv] ⟨iv (chkN n), none⟩ := fn_of ⟨Tryz.f55, _, Tryz.func55, by kernel_rfl, rfl⟩ fun w R hR us hus => by
  cases hus with | cons h0 _ hus =>
  cases hus
  obtain ⟨P, L, G, cp, cl, cg, pw, rfl, e1, e2, e3, e4⟩ := net_rep hR hl h0
  have hlen : n.pow.length = pw.length := by rw [← e1, List.length_map]
  rw [hlen]
  refine (netCheck_any n.nodes n.noise n.thr pw n.lk n.mg P L G cp cl cg w e2 (by omega) e3 hk e4 hg).mono ?_
  rintro e w' ⟨rfl, hb⟩
  rw [e1]
  exact ⟨_, rfl, hb, res_v⟩
end Go.Proofs.YticnppnejafhdaaGreatDoor
/- Owned rows of structs: what the record layer's text DecP holds of them. -/
namespace Go.Proofs.YticnppnejafhdaaGreatDoor
open Go.RowKit
open Rc
theorem Blk.new' {w : World} {g : Nat} (t : TypeId) (cs : List Value) (h : g = w.heap.size) : Blk (w.alloc (.cells cs.toArray t)) g t cs := by rw [h]; exact Blk.new w t cs
theorem own_kept {w w' : World} {base : Nat} {e : TypeId} {size : Nat} {v : Value} {n : Nat} {xs : List Value} (h : w.ownsRow base e size v n xs) (hk : ∀ g cs, v.ownBlock = some g → Blk w g e cs → Blk w' g e cs) : w'.ownsRow base e size v n xs := by
  refine ⟨h.1, ?_⟩
  rcases h.2 with h0 | ⟨g, cap, cur, hv, hg, hh, h1, h2, h3, h4⟩
  · exact .inl h0
  · refine .inr ⟨g, cap, cur, hv, hg, ?_, h1, h2, h3, h4⟩
    have := hk g cur.toList (by rw [hv]; rfl) (by unfold Blk; simpa using hh)
    unfold Blk at this
    simpa using this
theorem Blk.grown_ {w w' : World} {g : Nat} {t : TypeId} {cs : List Value} {row : Option Nat} (h : Blk w g t cs) (hg : w.grownBy w' row) (hne : some g ≠ row) : Blk w' g t cs := (hg.block g h.lt hne).trans h
theorem Blk.news {w : World} {g : Nat} {t : TypeId} {cs : List Value} (h : Blk w g t cs) : ∀ j u, cs[j]? = some u → w.cell? ((⟨g, 0, none⟩ : Addr).add j) = some u := fun j u hu => by
  have e : (⟨g, 0, none⟩ : Addr).add j = ⟨g, j, none⟩ := by
    unfold Addr.add
    split
    · rename_i h; subst h; rfl
    · simp
  rw [e]; exact (h.row j).trans hu
theorem ints_one {l : List Int} : ∀ u ∈ l.map (Value.int .i64), u.oneCell' = true := fun u hu => by
  obtain ⟨z, _, rfl⟩ := List.mem_map.1 hu
  rfl

theorem own_form {w : World} {base : Nat} {e : TypeId} {size : Nat} {v : Value} {n : Nat} {xs : List Value} (h : w.ownsRow base e size v n xs) : ∃ A c, v = .slice A n c := by
  rcases h.2 with ⟨rfl, h0⟩ | ⟨g, cap, cur, rfl, _⟩
  · exact ⟨none, 0, by rw [h0]⟩
  · exact ⟨_, _, rfl⟩
def flatA (l : List Rc.Att) : List Value := l.flatMap Rc.Att.row
theorem row_len_A (a : Rc.Att) : a.row.length = 8 := rfl
theorem own_liesA {w : World} {base : Nat} {v : Value} {l : List Att} (h : w.ownsRow base 66 8 v l.length (flatA l)) : ∃ A c, v = .slice A l.length c ∧ LiesA w w.heap.size A l := by
  obtain ⟨A, c, e, h1, _⟩ := own_lies (f := Att.row) row_len_A h
  exact ⟨A, c, e, h1⟩
theorem own_A {w : World} {base n c : Nat} {A : Option Addr} {l : List Att} (h : w.ownsRow base 66 8 (.slice A n c) l.length (flatA l)) : LiesA w w.heap.size A l := by
  obtain ⟨A', c', e, h1⟩ := own_liesA h
  injection e with e _ _
  subst e
  exact h1
end Go.Proofs.YticnppnejafhdaaGreatDoor
/- Walk: Attempts of package record. -/
namespace Go.Proofs.YticnppnejafhdaaGreatDoor
open Go.RowKit
open Rc
theorem Tryz.infoAtt : (Tryz.prog.info? 66).map (fun i => (i.zero, i.size, i.bytes)) = some (some (.agg #[.int .i64 0, .int .i64 0, .int .i64 0, .int .i64 0, .int .i64 0, .int .i64 0, .int .i64 0, .int .i64 0]), 8, 64) := by kernel_rfl
/-- The attempts of a frame. -/
def ofFrame (l : List Att) (flow frame : Int) : List Att := l.filter fun a => a.cl == flow && a.f == frame

theorem own_weak {w : World} {base base' : Nat} {e : TypeId} {size : Nat} {v : Value} {n : Nat} {xs : List Value} (h : w.ownsRow base e size v n xs) (hb : base' ≤ base) : w.ownsRow base' e size v n xs := by
  obtain ⟨h1, h2⟩ := h
  refine ⟨h1, ?_⟩
  rcases h2 with h2 | ⟨g, cap, cur, e1, e2, e3⟩
  · exact Or.inl h2
  · exact Or.inr ⟨g, cap, cur, e1, Nat.le_trans hb e2, e3⟩
set_option maxRecDepth 100000 in
set_option maxHeartbeats 8000000 in
theorem attempts2_any (r : Rec) (A D : Option Addr) (ca cd : Nat) (flow frame : Int) (w : World) (hA : LiesA w w.heap.size A r.al) (hla : r.al.length ≤ 1000000) :
    Calls Tryz.prog 73 #[.agg #[.int .i64 r.slots, .slice A r.al.length ca, .slice D r.dl.length cd], .int .i64 flow, .int .i64 frame] w fun e w' => Below w.heap.size w w' ∧ ∃ va, e = .returned va ∧ w'.ownsRow w.heap.size 66 8 va (ofFrame r.al flow frame).length (flatA (ofFrame r.al flow frame)) := by
  obtain ⟨slots, al, dl⟩ := r
  dsimp only at *
  obtain ⟨na, hna⟩ : ∃ n, n = al.length := ⟨_, rfl⟩
  obtain ⟨nd, hnd⟩ : ∃ n, n = dl.length := ⟨_, rfl⟩
  rw [← hna, ← hnd]
  rw [← hna] at hla
  have HA := Lib.hid hna
  clear hna hnd
  obtain ⟨F, hF⟩ : ∃ F, F = ofFrame al flow frame := ⟨_, rfl⟩
  rw [← hF]
  have HF := Lib.hid hF
  clear hF
  obtain ⟨i0, hi, hz0, hz1, hz2⟩ := info_parts Tryz.infoAtt
  go_enter Tryz.func73, Tryz.ntmps73
  go_wp2_with fail
  generalize hW0 : World.alloc _ _ = W0
  have bR : Blk W0 w.heap.size 35 [.int .i64 slots, .slice A na ca, .slice D nd cd] := by rw [← hW0]; exact Blk.new' _ [.int .i64 slots, .slice A na ca, .slice D nd cd] rfl
  have hb0 : Below w.heap.size w W0 := by rw [← hW0]; exact (Below.refl _ _).alloc (Nat.le_refl _) _
  clear hW0
  obtain ⟨N, hN⟩ : ∃ N, N = w.heap.size := ⟨_, rfl⟩
  rw [← hN] at bR hb0 ⊢
  have hA' : LiesA w N A al := by rw [hN]; exact hA
  have HN := Lib.hid hN
  clear hN hA
  go_loopw [7, 14] (fun s7 i wr => ∃ (k : Nat) (acc : List Att) (va : Value), va = s7 ∧ k ≤ na ∧ i = .int .i64 k ∧ acc.length ≤ k ∧ wr.ownsRow (N + 1) 66 8 va acc.length (flatA acc) ∧ Below N w wr ∧ N + 1 ≤ wr.heap.size ∧ Hid (F = acc ++ ofFrame (al.drop k) flow frame)) (fun _ i _ => na - (intOf i).toNat)
  case atStart => exact ⟨0, [], _, rfl, Nat.zero_le _, rfl, Nat.le_refl _, World.ownsRow_nil _ _ _ _, hb0, bR.lt, Lib.hid (by rw [HF.out]; simp)⟩
  case round =>
    obtain ⟨k, acc, va, rfl, hk, rfl, hal, hown, hb, hMw, hst⟩ := hrel
    by_cases hlt : k < na
    · obtain ⟨a, ha⟩ := get_of_lt (l := al) (k := k) (by rw [← HA.out]; exact hlt)
      obtain ⟨b, off, rfl, hbB, hcs⟩ := (hA'.below hb).at_ ha
      obtain ⟨c0, c1, c2, c3, c4, c5, c6, c7⟩ := hcs k a ha
      have hd := Lib.hid (drop_of_get ha)
      have hvl : ∀ g, va.ownBlock = some g → N + 1 ≤ g ∧ g < wr.heap.size := hown.lt
      have HV := Lib.hid hvl
      clear hcs ha hvl
      go_upto_region 5 with fail
      generalize hW1 : wr.alloc _ = W1
      have ba : Blk W1 wr.heap.size 66 [.int .i64 a.s, .int .i64 a.f, .int .i64 a.cs, .int .i64 a.co, .int .i64 a.cf, .int .i64 a.ct, .int .i64 a.cl, .int .i64 a.o] := by rw [← hW1]; exact Blk.new' _ [.int .i64 a.s, .int .i64 a.f, .int .i64 a.cs, .int .i64 a.co, .int .i64 a.cf, .int .i64 a.ct, .int .i64 a.cl, .int .i64 a.o] rfl
      have hb1 : Below N w W1 := by rw [← hW1]; exact hb.alloc (by omega) _
      have hsz : wr.heap.size + 1 ≤ W1.heap.size := by rw [← hW1]; simp
      have hown1 : W1.ownsRow (N + 1) 66 8 va acc.length (flatA acc) := by rw [← hW1]; exact hown.alloc _
      have ca := ba.row
      unfold Row at ca
      clear hW1 c0 c1 c2 c3 c4 c5 c6 c7 hown
      by_cases hm : a.cl = flow ∧ a.f = frame
      · obtain ⟨h1, h2⟩ := hm
        have e1 : (a.cl == flow) = true := by simp [h1]
        have e2 : (a.f == frame) = true := by simp [h2]
        have hst' : Hid (F = (acc ++ [a]) ++ ofFrame (al.drop (k + 1)) flow frame) := Lib.hid (by rw [hst.out, hd.out]; simp [ofFrame, h1, h2])
        have HO := Lib.hid hown1
        clear hown1 hst h1 h2
        go_wp2_with (at_builtin; refine wpList_append_own_at _ rfl (.tmp 29) (.tmp 31) 30 rfl (N + 1) 66 i0 (.agg #[.int .i64 0, .int .i64 0, .int .i64 0, .int .i64 0, .int .i64 0, .int .i64 0, .int .i64 0, .int .i64 0]) 8 64 Tryz.underlying30 hi hz0 hz1 hz2 rfl (by decide) va acc.length (flatA acc) rfl (HO.out.alloc _) ⟨W1.heap.size, 0, none⟩ 1 1 [.int .i64 a.s, .int .i64 a.f, .int .i64 a.cs, .int .i64 a.co, .int .i64 a.cf, .int .i64 a.ct, .int .i64 a.cl, .int .i64 a.o] rfl rfl ?e0 ?e1 ?e2 ?e3 ?e4 ?_)
        case e0 => exact (Blk.new' 66 [.int .i64 a.s, .int .i64 a.f, .int .i64 a.cs, .int .i64 a.co, .int .i64 a.cf, .int .i64 a.ct, .int .i64 a.cl, .int .i64 a.o] rfl).news
        case e1 => exact ints_one (l := [a.s, a.f, a.cs, a.co, a.cf, a.ct, a.cl, a.o])
        case e2 => unfold maxLen; omega
        case e3 => omega
        case e4 => simp; omega
        intro v3 w3 ho3 hg3 hnil3 hat3
        clear hnil3 hat3
        have hb3 : Below N w w3 := (hb1.alloc (by omega) _).grown hg3 (by simp; omega) (by intro g hg; have := HV.out g hg; omega)
        have hz3 : N + 1 ≤ w3.heap.size := by have := hg3.size; simp at this; omega
        have O3 : w3.ownsRow (N + 1) 66 8 v3 (acc ++ [a]).length (flatA (acc ++ [a])) := by simpa [flatA, Att.row] using ho3
        obtain ⟨A3, c3, hv3⟩ := own_form ho3
        clear ho3 hg3 HO
        subst hv3
        go_wp2_with fail
        go_roundw
        case rel => exact ⟨k + 1, acc ++ [a], _, rfl, by omega, by go_num, by simp; omega, O3, hb3, hz3, hst'⟩
        case measure => simp [intOf]; omega
      · have hst' : Hid (F = acc ++ ofFrame (al.drop (k + 1)) flow frame) := Lib.hid (by
          rw [hst.out, hd.out]
          have : (a.cl == flow && a.f == frame) = false := by
            rw [Bool.eq_false_iff]
            intro h
            simp at h
            exact hm h
          simp only [ofFrame, List.filter_cons, this, Bool.false_eq_true, if_false])
        clear hst
        by_cases h1 : a.cl = flow
        · have h2 : ¬ a.f = frame := fun h => hm ⟨h1, h⟩
          have e1 : (a.cl == flow) = true := by simp [h1]
          have e2 : (a.f == frame) = false := by simp [h2]
          go_wp2_with fail
          go_roundw
          case rel => exact ⟨k + 1, acc, _, rfl, by omega, by go_num, by omega, hown1, hb1, by omega, hst'⟩
          case measure => simp [intOf]; omega
        · have e1 : (a.cl == flow) = false := by simp [h1]
          go_wp2_with fail
          go_roundw
          case rel => exact ⟨k + 1, acc, _, rfl, by omega, by go_num, by omega, hown1, hb1, by omega, hst'⟩
          case measure => simp [intOf]; omega
    · have hst' : Hid (F = acc) := Lib.hid (by rw [hst.out, List.drop_of_length_le (by rw [← HA.out]; omega)]; simp [ofFrame])
      obtain ⟨A3, c3, hv3⟩ := own_form hown
      have HO := Lib.hid hown
      clear hst hown
      subst hv3
      go_wp2_with fail
      go_ret
      exact ⟨by rw [← HN.out]; exact hb, _, rfl, by rw [hst'.out, ← HN.out]; exact own_weak HO.out (by omega)⟩

end Go.Proofs.YticnppnejafhdaaGreatDoor
/- Explanations, and what the layer computes with them: plain. -/
namespace Go.Proofs.YticnppnejafhdaaGreatDoor
open Go.RowKit
open Nd Rc Mo
open Av
structure Br where
  fl : Int
  fr : Int
  fm : Int
  tt : Int
  sl : List Int
deriving DecidableEq
def Br.pv (b : Br) : List PV := [ip b.fl, ip b.fr, ip b.fm, ip b.tt, .sl 1 (b.sl.map fun x => [ip x])]
structure Ex where
  lt : Lt
  ca : List Br
deriving DecidableEq
def Ex.pv (x : Ex) : List PV := [ip x.lt.fl, ip x.lt.fr, ip x.lt.sl, .sl 5 (x.ca.map Br.pv)]
def lt0 : Lt := ⟨0, 0, 0⟩
def ex0 : Ex := ⟨lt0, []⟩

/-- The fault of a flow among some nodes. -/
def faultN (nodes : Int) (f : Fl) : Int :=
  if f.id < 0 ∨ 255 < f.id ∨ f.fr < 0 ∨ nodes ≤ f.fr ∨ f.tn < 0 ∨ nodes ≤ f.tn ∨ f.pe < 1 ∨ 512 < f.pe ∨ f.ph < 0 ∨ f.pe ≤ f.ph ∨ f.dl < 1 ∨ f.pe < f.dl then 2 else if f.fr = f.tn then 1 else 0
def chkF1 (nodes : Int) (f : Fl) : Int × Int := if nodes < 2 ∨ 32 < nodes then (-1, 2) else if faultN nodes f = 0 then (-1, 0) else (0, faultN nodes f)
theorem fault_of_N {nodes : Int} {f : Fl} (hn : nodes ≤ 32) (h : faultN nodes f = 0) : fault f = 0 ∧ 0 ≤ f.fr ∧ f.fr < nodes ∧ 0 ≤ f.tn ∧ f.tn < nodes ∧ f.fr ≠ f.tn := by
  unfold faultN at h
  split at h
  · cases h
  · rename_i hb
    split at h
    · cases h
    · rename_i hne
      refine ⟨?_, by omega, by omega, by omega, by omega, hne⟩
      unfold fault
      rw [if_pos, if_neg hne]
      simp only [boundsB, Nd.inB, Bool.and_eq_true, decide_eq_true_eq]
      omega
def basicB (n : Net) (f : Fl) (r : Rec) : Bool := decide (chkN n = 0) && good r && decide ((chkF1 n.nodes f).2 = 0)
theorem basicB_inv {n : Net} {f : Fl} {r : Rec} (h : basicB n f r = true) : chkN n = 0 ∧ good r = true ∧ (2 ≤ n.nodes ∧ n.nodes ≤ 32) ∧ faultN n.nodes f = 0 ∧ fault f = 0 := by
  unfold basicB at h
  rw [Bool.and_eq_true, Bool.and_eq_true, decide_eq_true_eq, decide_eq_true_eq] at h
  obtain ⟨⟨h1, h2⟩, h3⟩ := h
  have hn : 2 ≤ n.nodes ∧ n.nodes ≤ 32 := by
    unfold chkN at h1
    split at h1
    · cases h1
    · omega
  unfold chkF1 at h3
  split at h3
  · cases h3
  · split at h3
    · rename_i h4
      exact ⟨h1, h2, hn, h4, (fault_of_N hn.2 h4).1⟩
    · rename_i h4
      exact absurd h3 h4

def lkP (a b : Int) (l : Lk) : Bool := l.fr == a && l.tt == b
/-- The place of a link, or -1. -/
def idxL (n : Net) (a b : Int) : Int := idxP (lkP a b) n.lk 0
def heardB (n : Net) (s : Int) : Bool := decide (n.thr * (n.noise + 0) ≤ s * 1000)
/-- Is there a usable link? -/
def goodL (n : Net) (a b : Int) : Bool := decide (0 ≤ idxL n a b) && (decide (0 ≤ idxL n b a) && (heardB n (n.mg.getD (idxL n a b).toNat 0) && heardB n (n.mg.getD (idxL n b a).toNat 0)))
def outN (n : Net) (x : Int) : Bool := decide (x < 0) || decide (n.nodes ≤ x)
def dupAt (p : List Int) (i : Nat) : Bool := (p.take i).any fun y => p.getD i 0 == y
def dupB (p : List Int) : Bool := (List.range p.length).any (dupAt p)
def gapAt (n : Net) (p : List Int) (i : Nat) : Bool := !goodL n (p.getD i 0) (p.getD (i + 1) 0)
def gapB (n : Net) (p : List Int) : Bool := (List.range (p.length - 1)).any (gapAt n p)
/-- The fault of a route. -/
def routeE (n : Net) (a b : Int) (p : List Int) : Int :=
  if p.length < 2 then 9 else if 9 < p.length then 8 else if p.any (outN n) = true then 2 else if p.getD 0 0 ≠ a ∨ p.getD (p.length - 1) 0 ≠ b then 11
  else if dupB p = true then 6 else if gapB n p = true then 17 else 0

/-- The attempts of a frame on a link. -/
def onLk (al : List Att) (fl fr a b : Int) : List Att := (ofFrame al fl fr).filter fun x => x.cf == a && x.ct == b
def failB (lo hi : Int) (a : Att) : Bool := !(a.o == 1) && (decide (lo ≤ a.s) && decide (a.s ≤ hi))
/-- The causes that begin at the first k attempts. -/
def causeAt (f : Fl) (fr a b lo hi : Int) (need : Nat) (l : List Att) (i : Nat) : List Br := if ((l.drop i).take need).all (failB lo hi) = true then [⟨f.id, fr, a, b, ((l.drop i).take need).map Att.s⟩] else []
def causesK (f : Fl) (fr a b lo hi : Int) (need : Nat) (l : List Att) (k : Nat) : List Br := (List.range k).flatMap (causeAt f fr a b lo hi need l)
def lossL (n : Net) (a b : Int) : Int := (n.lk.getD (idxL n a b).toNat ⟨0, 0, 0⟩).ls
def causesX (n : Net) (f : Fl) (r : Rec) (fr a b : Int) : List Br :=
  causesK f fr a b (rel f fr) (rel f fr + f.dl - 1) ((lossL n a b).toNat + 1) (onLk r.al f.id fr a b) ((onLk r.al f.id fr a b).length - (lossL n a b).toNat)
theorem causesK_succ (f : Fl) (fr a b lo hi : Int) (need : Nat) (l : List Att) (k : Nat) : causesK f fr a b lo hi need l (k + 1) = causesK f fr a b lo hi need l k ++ causeAt f fr a b lo hi need l k := by
  unfold causesK
  rw [List.range_succ, List.flatMap_append]
  simp
theorem causesK_len (f : Fl) (fr a b lo hi : Int) (need : Nat) (l : List Att) (k : Nat) : (causesK f fr a b lo hi need l k).length ≤ k := by
  induction k with
  | zero => exact Nat.le_refl _
  | succ k ih =>
    rw [causesK_succ, List.length_append]
    have : (causeAt f fr a b lo hi need l k).length ≤ 1 := by unfold causeAt; split <;> simp
    omega
def causesR (n : Net) (f : Fl) (r : Rec) (fr a b : Int) : List Br × Int :=
  if basicB n f r = false then ([], 1) else if fr < 0 ∨ 1048576 ≤ fr then ([], 2) else if idxL n a b < 0 then ([], 7) else (causesX n f r fr a b, 0)

/-- The late frame of a case. -/
def lateX (n : Net) (f : Fl) (ps : List (List Int)) (r : Rec) (fr : Int) : Lt × Int :=
  if basicB n f r = false ∨ ps.length < 1 ∨ 2 < ps.length then (lt0, 1) else if ps.any (fun p => !(routeE n f.fr f.tn p == 0)) = true then (lt0, 1)
  else match (late [f] r).1.find? (fun x => x.fr == fr) with
    | none => (lt0, 12)
    | some x => (x, 0)
/-- The first cause on a route, from its k-th link on. -/
def firstC (n : Net) (f : Fl) (r : Rec) (fr : Int) : List Int → Option Br
  | a :: b :: p => match (causesX n f r fr a b).head? with
    | some c => some c
    | none => firstC n f r fr (b :: p)
  | _ => none
def findX (n : Net) (f : Fl) (ps : List (List Int)) (r : Rec) (fr : Int) : Ex × Int :=
  if (lateX n f ps r fr).2 ≠ 0 then (ex0, (lateX n f ps r fr).2) else if ps.any (fun p => (firstC n f r fr p).isNone) = true then (ex0, 7) else (⟨(lateX n f ps r fr).1, ps.filterMap (firstC n f r fr)⟩, 0)
def onB : List Int → Int → Int → Bool
  | a :: b :: p, x, y => (a == x && b == y) || onB (b :: p) x y
  | _, _, _ => false
def okC (n : Net) (f : Fl) (r : Rec) (fr : Int) (p : List Int) (c : Br) : Bool := onB p c.fm c.tt && (causesX n f r fr c.fm c.tt).contains c
def checkX (n : Net) (f : Fl) (ps : List (List Int)) (r : Rec) (x : Ex) : Int :=
  if (lateX n f ps r x.lt.fr).2 ≠ 0 then (lateX n f ps r x.lt.fr).2 else if (lateX n f ps r x.lt.fr).1 ≠ x.lt ∨ x.ca.length ≠ ps.length then 20
  else if (List.zip ps x.ca).all (fun q => okC n f r x.lt.fr q.1 q.2) = true then 0 else 20
end Go.Proofs.YticnppnejafhdaaGreatDoor
/- Plain facts about late frames and routes. -/
namespace Go.Proofs.YticnppnejafhdaaGreatDoor
open Go.RowKit
open Nd Rc Mo
open Av
theorem find_idx {α : Type} (p : α → Bool) : ∀ (l : List α) (k : Int), (l.find? p = none ∧ idxP p l k = -1) ∨ ∃ (i : Nat) (x : α), l[i]? = some x ∧ l.find? p = some x ∧ idxP p l k = k + (i : Int) ∧ p x = true
  | [], _ => .inl ⟨rfl, rfl⟩
  | a :: l, k => by
    by_cases h : p a = true
    · exact .inr ⟨0, a, rfl, by rw [List.find?_cons_of_pos h], by rw [idxP, if_pos h]; simp, h⟩
    · rcases find_idx p l (k + 1) with ⟨h1, h2⟩ | ⟨i, x, h1, h2, h3, h4⟩
      · exact .inl ⟨by rw [List.find?_cons_of_neg (by simpa using h), h1], by rw [idxP, if_neg h, h2]⟩
      · exact .inr ⟨i + 1, x, by simpa using h1, by rw [List.find?_cons_of_neg (by simpa using h), h2], by rw [idxP, if_neg h, h3]; push_cast; omega, h4⟩
theorem right_invX {fs : List Fl} {r : Rec} (h : right fs r = true) : (∀ f ∈ fs, fault f = 0) ∧ fs.length ≤ 1000000 ∧ good r = true ∧ r.slots ≤ 4096 := by
  simp only [right, Bool.and_eq_true, decide_eq_true_eq] at h
  obtain ⟨h1, _, h3⟩ := chkF_ok h.1
  have h4 : r.slots ≤ 4096 := by
    have := h.2
    simp only [good, Bool.and_eq_true, decide_eq_true_eq] at this
    omega
  exact ⟨h1, by omega, h.2, h4⟩
theorem late_boundX (fs : List Fl) (r : Rec) : (late fs r).1.length ≤ 1000000 := by
  unfold late
  split
  · rename_i h
    simp only [right, Bool.and_eq_true, decide_eq_true_eq] at h
    obtain ⟨h1, _, h3⟩ := chkF_ok h.1
    have h4 : r.slots ≤ 4096 := by
      have := h.2
      simp only [good, Bool.and_eq_true, decide_eq_true_eq] at this
      omega
    have := late_len h4 fs h1
    dsimp only
    omega
  · exact Nat.zero_le _
theorem late_memX {f : Fl} {r : Rec} {x : Lt} (hx : x ∈ (late [f] r).1) : x.fl = f.id ∧ 0 ≤ x.fr ∧ x.fr < 1048576 := by
  unfold late at hx
  split at hx
  · rename_i h
    obtain ⟨h1, _, _, h4⟩ := right_invX h
    obtain ⟨g, hg, hx1⟩ := List.mem_flatMap.1 hx
    obtain rfl : g = f := by simpa using hg
    obtain ⟨n, hn, hx2⟩ := List.mem_flatMap.1 hx1
    clear hx
    have hx := hx2
    have hc := complete_bounds (h1 _ hg) h4
    have hn' := List.mem_range.1 hn
    unfold lateN at hx
    split at hx
    · cases hx
    · obtain rfl := List.mem_singleton.1 hx
      refine ⟨rfl, ?_, ?_⟩
      · show (0 : Int) ≤ (n : Int); omega
      · show (n : Int) < 1048576; omega
  · cases hx
structure LateOK (n : Net) (f : Fl) (ps : List (List Int)) (r : Rec) (fr : Int) : Prop where
  base : basicB n f r = true
  l1 : 1 ≤ ps.length
  l2 : ps.length ≤ 2
  rt : ∀ p ∈ ps, routeE n f.fr f.tn p = 0
  fr0 : 0 ≤ fr
  fr1 : fr < 1048576
  mem : (lateX n f ps r fr).1 ∈ (late [f] r).1
  id : (lateX n f ps r fr).1.fl = f.id
  num : (lateX n f ps r fr).1.fr = fr
theorem lateX_ok {n : Net} {f : Fl} {ps : List (List Int)} {r : Rec} {fr : Int} (h : (lateX n f ps r fr).2 = 0) : LateOK n f ps r fr := by
  have key : ∀ x : Lt × Int, x = lateX n f ps r fr → x.2 = 0 → LateOK n f ps r fr := by
    intro x hx h0
    unfold lateX at hx
    split at hx
    · subst hx; cases h0
    rename_i h1
    split at hx
    · subst hx; cases h0
    rename_i h2
    split at hx
    · subst hx; cases h0
    rename_i y hy
    have hL : lateX n f ps r fr = (y, 0) := by unfold lateX; rw [if_neg h1, if_neg h2, hy]
    have hmem := List.mem_of_find?_eq_some hy
    have hfr : y.fr = fr := by have := List.find?_some hy; simpa using this
    have hq := late_memX hmem
    have hps : ¬ (ps.length < 1) ∧ ¬ (2 < ps.length) := ⟨fun h => h1 (.inr (.inl h)), fun h => h1 (.inr (.inr h))⟩
    refine ⟨?_, by omega, by omega, fun p hp => ?_, by omega, by omega, by rw [hL]; exact hmem, by rw [hL]; exact hq.1, by rw [hL]; exact hfr⟩
    · cases hb : basicB n f r with
      | true => rfl
      | false => exact absurd (.inl hb) h1
    · refine Classical.byContradiction fun hne => h2 (List.any_eq_true.2 ⟨p, hp, ?_⟩)
      simpa using hne
  exact key _ rfl h
theorem route_inv {n : Net} {a b : Int} {p : List Int} (h : routeE n a b p = 0) : 2 ≤ p.length ∧ p.length ≤ 9 ∧ ∀ (i : Nat) (x y : Int), p[i]? = some x → p[i + 1]? = some y → 0 ≤ idxL n x y := by
  unfold routeE at h
  split at h
  · cases h
  rename_i h1
  split at h
  · cases h
  rename_i h2
  split at h
  · cases h
  split at h
  · cases h
  split at h
  · cases h
  split at h
  · cases h
  rename_i h6
  refine ⟨by omega, by omega, fun i x y hx hy => ?_⟩
  have hi := (List.getElem?_eq_some_iff.1 hy).1
  have hg : gapAt n p i = false := by
    cases hq : gapAt n p i with
    | false => rfl
    | true => exact absurd (List.any_eq_true.2 ⟨i, List.mem_range.2 (by omega), hq⟩) h6
  unfold gapAt goodL at hg
  rw [List.getD_eq_getElem?_getD, List.getD_eq_getElem?_getD, hx, hy] at hg
  simp only [Option.getD_some, Bool.not_eq_false', Bool.and_eq_true, decide_eq_true_eq] at hg
  exact hg.1
end Go.Proofs.YticnppnejafhdaaGreatDoor
/- What stands for a list may be nil where the list is empty. -/
namespace Go.Proofs.YticnppnejafhdaaGreatDoor
open Go.RowKit
open Nd Rc Mo
open Av
set_option maxRecDepth 100000
set_option linter.unusedSimpArgs false
namespace Av

/-- What stands for a list may be nil where the list is empty. -/
inductive PVLe : PV → PV → Prop
  | refl (p : PV) : PVLe p p
  | nil (sz : Nat) : PVLe (.v (.slice none 0 0)) (.sl sz [])
inductive PVsLe : List PV → List PV → Prop
  | nil : PVsLe [] []
  | cons {x y : PV} {xs ys : List PV} (h : PVLe x y) (t : PVsLe xs ys) : PVsLe (x :: xs) (y :: ys)
inductive AVLe : AV → AV → Prop
  | refl (x : AV) : AVLe x x
  | nil (sz : Nat) : AVLe (.v (.slice none 0 0)) (.sl sz [])
  | agg {xs ys : List PV} (h : PVsLe xs ys) : AVLe (.agg xs) (.agg ys)
inductive AVsLe : List AV → List AV → Prop
  | nil : AVsLe [] []
  | cons {x y : AV} {xs ys : List AV} (h : AVLe x y) (t : AVsLe xs ys) : AVsLe (x :: xs) (y :: ys)
theorem rep_nilS {R : Reader} {sz : Nat} : RepP R (.sl sz []) (.slice none 0 0) := .sl sz [] none 0 (fun _ _ => undef) (fun k row hk => by cases hk) (.inl rfl) (fun k row j p hk => by cases hk) (Nat.le_refl _)
theorem PVLe.rep {R : Reader} {x y : PV} {u : Value} (h : PVLe x y) (hr : RepP R x u) : RepP R y u := by
  cases h with
  | refl => exact hr
  | nil sz => cases hr; exact rep_nilS
theorem PVsLe.rep {R : Reader} {xs ys : List PV} (h : PVsLe xs ys) : ∀ {us : List Value}, RepL R xs us → RepL R ys us := by
  induction h with
  | nil => exact fun h => h
  | cons h t ih =>
    intro us hr
    cases hr with | cons g0 g1 => exact .cons (h.rep g0) (ih g1)
theorem AVLe.rep {R : Reader} {bx : Nat → Nat} {x y : AV} {u : Value} (h : AVLe x y) (hr : RepA R bx x u) : RepA R bx y u := by
  cases h with
  | refl => exact hr
  | nil sz => cases hr; exact rep_nilS
  | agg h =>
    obtain ⟨vs, e, hv⟩ := hr
    exact ⟨vs, e, h.rep hv⟩
theorem AVLe.refs {x y : AV} (h : AVLe x y) (hr : x.refs = []) : y.refs = [] := by
  cases h with
  | refl => exact hr
  | nil sz => rfl
  | agg h => rfl
theorem fnOK_le {P : Program} {f : FuncId} {args args' : List AV} {res : FRes} (h : FnOK P f args' res) (hl : AVsLe args args') : FnOK P f args res :=
  ⟨h.1, fun w R hR us hus => h.2 w R hR us (by
    clear h hR
    induction hl generalizing us with
    | nil => exact hus
    | cons h t ih =>
      cases hus with
      | cons g0 g1 g2 => exact .cons (h.rep g0) (h.refs g1) (ih _ g2))⟩
end Av
end Go.Proofs.YticnppnejafhdaaGreatDoor
/- Abstract states: regions that draw their order and store one result late. Generic. -/
namespace Go.Proofs.YticnppnejafhdaaGreatDoor
open Go.RowKit
namespace Av
section
variable {P : Program} {ops : Array Oper} {Q : Exit → Act → World → Prop}
end
section
variable {P : Program} {F : Fr}
def stored (σ : St) (k : Nat) (cs xs : List PV) : St := { slot := σ.slot, box := (k, setAt cs 0 xs) :: σ.box, own := keepL σ.own k 0 xs.length, ext := σ.ext }
end
end Av
end Go.Proofs.YticnppnejafhdaaGreatDoor
/- Walks: DeleteFunc of package slices at attempts, with whatever closure: what is deleted is deleted in place. -/
namespace Go.Proofs.YticnppnejafhdaaGreatDoor
open Go.RowKit
open Nd Rc Mo

/-- clear(s[k:]) of a row of one's own: what lies ahead of k stays. -/
theorem run_clear_ownD {P : Program} (w : World) (t ty e : TypeId) (i : TypeInfo) (z : Value) (size : Nat) (ht : P.underlying t = some (.slice e)) (hi : P.info? e = some i) (hz : i.zero = some z) (hzs : z.cells.size = size) (hsz : 0 < size) (h1 : ∀ u ∈ z.cells.toList, u.oneCell' = true)
    (base g n cap k c : Nat) (xs : List Value) (hown : w.ownsRow base e size (.slice (some ⟨g, 0, none⟩) n cap) n xs) (hk : k < n) :
    ∃ w', (Builtin.clear_ #[t] ty #[.slice (some ⟨g, k * size, none⟩) (n - k) c]).run P w = .ok (.tuple #[]) w' ∧ w'.ownsRow base e size (.slice (some ⟨g, 0, none⟩) k cap) k (xs.take (k * size)) ∧ w.grownBy w' (some g) := by
  rcases hown.2 with ⟨h', _⟩ | ⟨g', cap', cur, h', hb, hg, hnc, hcm, hcs, htake⟩
  · simp at h'
  · simp only [Value.slice.injEq, Option.some.injEq, Addr.mk.injEq, and_true, true_and] at h'
    obtain ⟨rfl, rfl⟩ := h'
    have hzl : (Builtin.zeroCells z.cells (n - k)).toList.length = (n - k) * size := by
      rw [Array.length_toList, size_zeroCells, hzs]
    have hfit : k * size + (n - k) * size ≤ cur.size := by
      rw [hcs, ← Nat.add_mul, show k + (n - k) = n by omega]
      exact Nat.mul_le_mul_right _ hnc
    have hst := run_storeCells_at (P := P) g (k * size) e (Builtin.zeroCells z.cells (n - k)).toList 0 cur w hg (by rw [hzl]; simpa using hfit) (by
      intro v hv
      simp only [Builtin.zeroCells] at hv
      obtain ⟨j, hj, rfl⟩ := List.getElem_of_mem hv
      have hzp : 0 < z.cells.size := by rw [hzs]; exact hsz
      have hlt : j % z.cells.size < z.cells.size := Nat.mod_lt _ hzp
      simp only [Array.getElem_toList, Array.getElem_map, Array.getElem_range] at hv ⊢
      refine h1 _ ?_
      rw [getElem!_pos z.cells _ hlt]
      simp)
    simp only [Nat.add_zero] at hst
    obtain ⟨zc, hzc⟩ : ∃ zc, zc = (Builtin.zeroCells z.cells (n - k)).toList := ⟨_, rfl⟩
    rw [← hzc] at hst hzl
    obtain ⟨row, hrow⟩ : ∃ row, row = (cur.toList.take (k * size) ++ zc ++ cur.toList.drop (k * size + zc.length)).toArray := ⟨_, rfl⟩
    rw [← hrow] at hst
    refine ⟨w.setRow g row, ?_, ⟨?_, .inr ⟨g, cap, row, rfl, hb, setRow_heap w g cur row e _ hg, by omega, hcm, ?_, ?_⟩⟩, ⟨rfl, rfl, rfl, by simp [World.setRow], fun x _ hx => setRow_other w g x row (fun e => hx (by rw [e]))⟩⟩
    · obtain ⟨m, hm⟩ : ∃ m, n - k = m + 1 := ⟨n - k - 1, by omega⟩
      rw [hm] at hzc ⊢
      simp [Builtin.clear_, run_underlying ht, zeroValue, typeInfo, hi, hz, ← hzc, hst]
    · rw [List.length_take, hown.1, Nat.min_eq_left (Nat.mul_le_mul_right _ (by omega))]
    · rw [hrow]
      simp only [List.size_toArray, List.length_append, List.length_take, List.length_drop, Array.length_toList, hzl]
      rw [hcs] at hfit ⊢
      omega
    · rw [hrow, ← htake, List.take_take, Nat.min_eq_left (Nat.mul_le_mul_right _ (by omega))]
      simp only [List.append_assoc]
      rw [List.take_append_of_le_length (by rw [List.length_take, Array.length_toList]; omega), List.take_take, Nat.min_self]

theorem take_snoc_ {α : Type} {l : List α} {k : Nat} {a : α} (h : l[k]? = some a) : l.take (k + 1) = l.take k ++ [a] := by rw [List.take_add_one, h]; rfl
theorem only_of_below {a w : World} (h : Below a.heap.size a w) (row : Option Nat) : a.grownBy w row := ⟨h.os, h.tape, h.output, h.size, fun i hi _ => h.block i hi⟩

def keepP (p : Att → Bool) (l : List Att) : List Att := l.filter fun a => !p a
theorem keepP_snoc (p : Att → Bool) (l : List Att) (a : Att) : keepP p (l ++ [a]) = if p a = true then keepP p l else keepP p l ++ [a] := by
  unfold keepP
  rw [List.filter_append]
  by_cases h : p a = true <;> simp [h]
theorem idxK_spec (p : Att → Bool) : ∀ (l : List Att) (k : Int), (idxP p l k = -1 ∧ keepP p l = l) ∨ ∃ i : Nat, i < l.length ∧ idxP p l k = k + (i : Int) ∧ keepP p (l.take (i + 1)) = l.take i
  | [], k => .inl ⟨rfl, rfl⟩
  | a :: l, k => by
    simp only [idxP]
    by_cases h : p a = true
    · rw [if_pos h]
      exact .inr ⟨0, by simp, by simp, by simp [keepP, h]⟩
    · rw [if_neg h]
      rcases idxK_spec p l (k + 1) with ⟨h1, h2⟩ | ⟨i, h1, h2, h3⟩
      · refine .inl ⟨h1, ?_⟩
        unfold keepP at h2 ⊢
        rw [List.filter_cons, h2]
        simp [h]
      · refine .inr ⟨i + 1, by simp; omega, by rw [h2]; simp; omega, ?_⟩
        unfold keepP at h3 ⊢
        rw [List.take_succ_cons, List.filter_cons, h3]
        simp [h]

set_option maxRecDepth 100000 in
set_option maxHeartbeats 2000000 in
theorem indexHA_any (p : Att → Bool) (g0 : FuncId) (cb : Array Value) (l : List Att) (A : Option Addr) (c : Nat) (w : World) (eg : ∀ args w, (callFunc g0 args).run Tryz.prog w = .ok (.enter g0 args) w) (hA : LiesA w w.heap.size A l) (hl : l.length ≤ 1000000)
    (hp : ∀ W, Below w.heap.size w W → ∀ a : Att, Calls Tryz.prog g0 (#[.agg #[.int .i64 a.s, .int .i64 a.f, .int .i64 a.cs, .int .i64 a.co, .int .i64 a.cf, .int .i64 a.ct, .int .i64 a.cl, .int .i64 a.o]] ++ cb) W fun e w' => e = .returned (.bool (p a)) ∧ Below W.heap.size W w') :
    Calls Tryz.prog 51 #[.slice A l.length c, .func (.func g0) #[] cb] w fun e w' => e = .returned (.int .i64 (idxP p l 0)) ∧ Below w.heap.size w w' := by
  obtain ⟨n, hn⟩ : ∃ n, n = l.length := ⟨_, rfl⟩
  rw [← hn] at hl ⊢
  have HN := Lib.hid hn
  obtain ⟨T, hT⟩ : ∃ T, T = idxP p l 0 := ⟨_, rfl⟩
  rw [← hT]
  have HT := Lib.hid hT
  have HP := Lib.hid hp
  clear hn hT hp
  go_enter Tryz.func51, Tryz.ntmps51
  go_wp2_with fail
  go_loopw [8] (fun i wr => ∃ (k : Nat), k ≤ n ∧ i = .int .i64 k ∧ Below w.heap.size w wr ∧ Hid (T = idxP p (l.drop k) k)) (fun i _ => n - (intOf i).toNat)
  case atStart => exact ⟨0, Nat.zero_le _, rfl, Below.refl _ _, Lib.hid (by rw [HT.out]; rfl)⟩
  case round =>
    obtain ⟨k, hk, rfl, hb, hst⟩ := hrel
    by_cases hlt : k < n
    · obtain ⟨a, ha⟩ := get_of_lt (l := l) (k := k) (by rw [← HN.out]; exact hlt)
      obtain ⟨b, off, rfl, hbB, hcs⟩ := (hA.below hb).at_ ha
      obtain ⟨c0, c1, c2, c3, c4, c5, c6, c7⟩ := hcs k a ha
      have hst' : Hid (T = if p a = true then (k : Int) else idxP p (l.drop (k + 1)) ((k : Int) + 1)) := Lib.hid (by rw [hst.out, drop_of_get ha]; rfl)
      have hcall := HP.out wr hb a
      clear hcs ha hst
      cases hq : p a with
      | true =>
        rw [hq] at hcall
        have hf := Lib.hid (show T = (k : Int) by rw [hst'.out, if_pos hq])
        clear hst' hq
        go_wp2_with (go_at_fn g0; refine hcall.mono ?_; rintro e w2 ⟨rfl, hb2⟩)
        go_ret
        exact ⟨ret_int (by rw [hf.out]), hb.trans (hb2.mono hb.size)⟩
      | false =>
        rw [hq] at hcall
        have hf := Lib.hid (show T = idxP p (l.drop (k + 1)) ((k + 1 : Nat) : Int) by rw [hst'.out, if_neg (by rw [hq]; decide)]; rfl)
        clear hst' hq
        go_wp2_with (go_at_fn g0; refine hcall.mono ?_; rintro e w2 ⟨rfl, hb2⟩)
        go_roundw
        case rel => exact ⟨k + 1, by omega, by go_num, hb.trans (hb2.mono hb.size), hf⟩
        case measure => simp [intOf]; omega
    · have hf : Hid (T = -1) := Lib.hid (by rw [hst.out, List.drop_of_length_le (by rw [← HN.out]; omega)]; rfl)
      go_wp2_with fail
      go_ret
      exact ⟨ret_int (by rw [hf.out]), hb⟩

theorem flatA_set : ∀ (X : List Att) (i : Nat) (a : Att), i < X.length → (((((((((flatA X).set (i * 8) (.int .i64 a.s)).set (i * 8 + 1) (.int .i64 a.f)).set (i * 8 + 2) (.int .i64 a.cs)).set (i * 8 + 3) (.int .i64 a.co)).set (i * 8 + 4) (.int .i64 a.cf)).set (i * 8 + 5) (.int .i64 a.ct)).set (i * 8 + 6) (.int .i64 a.cl)).set (i * 8 + 7) (.int .i64 a.o)) = flatA (X.set i a)
  | [], i, a, h => by simp at h
  | x :: X, 0, a, _ => by simp [flatA, Att.row]
  | x :: X, i + 1, a, h => by
    have ih := flatA_set X i a (by simpa using h)
    have e : flatA (x :: X) = x.row ++ flatA X := by simp [flatA]
    have e2 : flatA ((x :: X).set (i + 1) a) = x.row ++ flatA (X.set i a) := by simp [flatA]
    rw [e, e2, ← ih]
    have hl : x.row.length = 8 := rfl
    have hs : ∀ (l : List Value) (j : Nat) (u : Value), (x.row ++ l).set ((i + 1) * 8 + j) u = x.row ++ l.set (i * 8 + j) u := fun l j u => by
      rw [List.set_append_right _ _ (by rw [hl]; omega), hl]
      congr 2
      omega
    have hs0 : ∀ (l : List Value) (u : Value), (x.row ++ l).set ((i + 1) * 8) u = x.row ++ l.set (i * 8) u := fun l u => by simpa using hs l 0 u
    simp only [hs0, hs]

set_option maxRecDepth 100000 in
set_option maxHeartbeats 8000000 in
theorem deleteA_any (p : Att → Bool) (g0 : FuncId) (cb : Array Value) (l : List Att) (A : Option Addr) (c base : Nat) (w : World) (eg : ∀ args w, (callFunc g0 args).run Tryz.prog w = .ok (.enter g0 args) w) (hown : w.ownsRow base 66 8 (.slice A l.length c) l.length (flatA l)) (hl : l.length ≤ 1000000) (hp : ∀ W, w.grownBy W (Value.slice A l.length c).ownBlock → ∀ a : Att, Calls Tryz.prog g0 (#[.agg #[.int .i64 a.s, .int .i64 a.f, .int .i64 a.cs, .int .i64 a.co, .int .i64 a.cf, .int .i64 a.ct, .int .i64 a.cl, .int .i64 a.o]] ++ cb) W fun e w' => e = .returned (.bool (p a)) ∧ Below W.heap.size W w') :
    Calls Tryz.prog 72 #[.slice A l.length c, .func (.func g0) #[] cb] w fun e w' => w.grownBy w' (Value.slice A l.length c).ownBlock ∧ ∃ A' c', A' = A ∧ e = .returned (.slice A' (keepP p l).length c') ∧ w'.ownsRow base 66 8 (.slice A' (keepP p l).length c') (keepP p l).length (flatA (keepP p l)) := by
  have hidx := indexHA_any p g0 cb l A c w eg (own_A hown) hl (fun W hW a => hp W (only_of_below hW _) a)
  have HX := Lib.hid hidx
  have HSP := Lib.hid (idxK_spec p l 0)
  obtain ⟨KP, hKP⟩ : ∃ KP, KP = keepP p l := ⟨_, rfl⟩
  rw [← hKP]
  obtain ⟨n, hn⟩ : ∃ n, n = l.length := ⟨_, rfl⟩
  obtain ⟨I, hI⟩ : ∃ I, I = idxP p l 0 := ⟨_, rfl⟩
  rw [← hn] at HX hown hl hp ⊢
  have HP := Lib.hid hp
  rw [← hI] at HX HSP
  have HN := Lib.hid hn
  have HKP := Lib.hid hKP
  clear hidx hn hKP hI hp
  go_enter Tryz.func72, Tryz.ntmps72
  go_wp2_with fail
  refine HX.out.mono ?_
  rintro e w1 ⟨rfl, hb1⟩
  have hown1 := own_kept (w' := w1) hown fun g cs hg h => h.below hb1 h.lt
  have hg1 := only_of_below hb1 (Value.slice A n c).ownBlock
  rcases HSP.out with ⟨e1, e2⟩ | ⟨i0, e1, e2, e3⟩
  · subst e1
    have HK2 : Hid (KP = l) := Lib.hid (by rw [HKP.out, e2])
    have HO := Lib.hid hown1
    clear e2 hown1
    go_wp2_with fail
    go_ret
    rw [HK2.out]
    have hln : l.length = n := HN.out.symm
    rw [hln]
    exact ⟨hg1, A, c, rfl, rfl, HO.out⟩
  · rw [← HN.out] at e1
    have e2' : I = (i0 : Int) := by rw [e2]; omega
    subst e2'
    have HE3 := Lib.hid e3
    clear e2 e3
    obtain ⟨g, hAg⟩ : ∃ g, A = some ⟨g, 0, none⟩ := by
      rcases hown1.2 with ⟨_, h0⟩ | ⟨g, cap, cur, hv, _⟩
      · omega
      · injection hv with hv _ _
        exact ⟨g, hv⟩
    subst hAg
    have hcap : n ≤ c ∧ c ≤ maxLen := by
      rcases hown1.2 with ⟨h0, _⟩ | ⟨g', cap, cur, hv, _, _, h1, h2, _⟩
      · cases h0
      · injection hv with _ _ hv
        subst hv
        exact ⟨h1, h2⟩
    obtain ⟨hnc, hcm⟩ := hcap
    unfold maxLen at hcm
    have hgl : g < w1.heap.size := (hown1.lt g rfl).2
    have HP2 : Hid (∀ W, w.grownBy W (some g) → ∀ a : Att, Calls Tryz.prog g0 (#[.agg #[.int .i64 a.s, .int .i64 a.f, .int .i64 a.cs, .int .i64 a.co, .int .i64 a.cf, .int .i64 a.ct, .int .i64 a.cl, .int .i64 a.o]] ++ cb) W fun e w' => e = .returned (.bool (p a)) ∧ Below W.heap.size W w') := Lib.hid HP.out
    clear HP
    simp only [Value.ownBlock] at hg1 ⊢
    obtain ⟨z0, hi, hz0, hz1, hz2⟩ := info_parts Tryz.infoAtt
    have HI := Lib.hid (And.intro hi (And.intro hz0 (And.intro hz1 hz2)))
    clear hi hz0 hz1 hz2
    obtain ⟨Rel, hRel⟩ : ∃ Rel : Nat → Nat → World → Prop, Rel = fun i j W => ∃ X : List Att, X.length = n ∧ X.take i = keepP p (l.take j) ∧ X.drop j = l.drop j ∧ W.ownsRow base 66 8 (.slice (some ⟨g, 0, none⟩) n c) n (flatA X) ∧ w.grownBy W (some g) := ⟨_, rfl⟩
    have HRel := Lib.hid hRel
    have hst0 : Rel i0 (i0 + 1) w1 := by
      rw [hRel]
      exact ⟨l, HN.out.symm, HE3.out.symm, rfl, hown1, hg1⟩
    have HOW := Lib.hid hown1
    clear hRel hown1
    have i0m : ((i0 : Int) == -1) = false := by rw [beq_eq_false_iff_ne]; omega
    go_wp2_with fail
    go_loopw [5, 6] (fun s5 s6 wr => ∃ (i j : Nat), i < j ∧ j ≤ n ∧ s5 = .int .i64 i ∧ s6 = .int .i64 j ∧ Rel i j wr) (fun _ s6 _ => n - (intOf s6).toNat)
    case atStart => exact ⟨i0, i0 + 1, by omega, by omega, rfl, by go_num, hst0⟩
    case round =>
      clear hst0
      obtain ⟨i, j, hij, hj, rfl, rfl, hrel⟩ := hrel
      rw [HRel.out] at hrel
      obtain ⟨X, hXn, hXt, hXd, hownX, hgr⟩ := hrel
      have HXN := Lib.hid hXn
      have HXT := Lib.hid hXt
      have HXD := Lib.hid hXd
      have hgw : g < wr.heap.size := (hownX.lt g rfl).2
      clear hXn hXt hXd
      by_cases hlt : j < n
      · obtain ⟨a, ha⟩ := get_of_lt (l := l) (k := j) (by rw [← HN.out]; exact hlt)
        have hXj : X[j]? = some a := by
          have h1 : (X.drop j)[0]? = (l.drop j)[0]? := by rw [HXD.out]
          simpa [List.getElem?_drop, ha] using h1
        have hlX : LiesA wr wr.heap.size (some ⟨g, 0, none⟩) X := own_A (l := X) (base := base) (n := n) (c := c) (by rw [HXN.out]; exact hownX)
        obtain ⟨b, off, eb, _, hcs⟩ := hlX.at_ hXj
        injection eb with eb
        injection eb with eb1 eb2 _
        subst eb1 eb2
        obtain ⟨c0, c1, c2, c3, c4, c5, c6, c7⟩ := hcs j a hXj
        simp only [Nat.zero_add] at c0 c1 c2 c3 c4 c5 c6 c7
        have htk : Hid (keepP p (l.take (j + 1)) = if p a = true then keepP p (l.take j) else keepP p (l.take j) ++ [a]) := Lib.hid (by rw [take_snoc_ ha]; exact keepP_snoc p _ a)
        have hdr : Hid (X.drop (j + 1) = l.drop (j + 1)) := Lib.hid (by
          have h1 := HXD.out
          rw [drop_of_get hXj, drop_of_get ha] at h1
          injection h1)
        have HOX := Lib.hid hownX
        clear hcs ha hXj hlX hownX
        go_upto_region 8 with fail
        generalize hW2 : wr.alloc _ = W2
        have ba : Blk W2 wr.heap.size 66 [.int .i64 a.s, .int .i64 a.f, .int .i64 a.cs, .int .i64 a.co, .int .i64 a.cf, .int .i64 a.ct, .int .i64 a.cl, .int .i64 a.o] := by rw [← hW2]; exact Blk.new' _ [.int .i64 a.s, .int .i64 a.f, .int .i64 a.cs, .int .i64 a.co, .int .i64 a.cf, .int .i64 a.ct, .int .i64 a.cl, .int .i64 a.o] rfl
        have hown2 : W2.ownsRow base 66 8 (.slice (some ⟨g, 0, none⟩) n c) n (flatA X) := by rw [← hW2]; exact HOX.out.alloc _
        have hw2 : Below wr.heap.size wr W2 := by rw [← hW2]; exact (Below.refl _ _).alloc (Nat.le_refl _) _
        have hcall := HP2.out W2 (hgr.trans (only_of_below hw2 (some g))) a
        have cb0 := ba.row
        unfold Row at cb0
        clear hW2 c0 c1 c2 c3 c4 c5 c6 c7 HOX
        go_wp2_with fail
        go_at_fn g0
        refine hcall.mono ?_
        rintro e w3 ⟨rfl, hb3⟩
        have hown3 := own_kept (w' := w3) hown2 fun x cs hg h => h.below hb3 h.lt
        have hgr3 : w.grownBy w3 (some g) := hgr.trans ((only_of_below hw2 (some g)).trans (only_of_below hb3 (some g)))
        have ba3 := ba.below hb3 ba.lt
        clear hown2 ba cb0 hgr
        by_cases hs : p a = true
        · rw [hs]
          have hnew : Rel i (j + 1) w3 := by
            rw [HRel.out]
            exact ⟨X, HXN.out, by rw [htk.out, if_pos hs]; exact HXT.out, hdr.out, hown3, hgr3⟩
          clear hown3 ba3 hs
          go_wp2_with fail
          go_roundw
          case rel => exact ⟨i, j + 1, by omega, by omega, rfl, by go_num, hnew⟩
          case measure => simp [intOf]; omega
        · rw [show p a = false by simpa using hs]
          have hiX : i < X.length := by rw [HXN.out]; omega
          have hst := flatA_set X i a hiX
          have o1 := hown3.stored (i * 8) (.int .i64 a.s)
          have o2 := o1.1.stored (i * 8 + 1) (.int .i64 a.f)
          have o3 := o2.1.stored (i * 8 + 2) (.int .i64 a.cs)
          have o4 := o3.1.stored (i * 8 + 3) (.int .i64 a.co)
          have o5 := o4.1.stored (i * 8 + 4) (.int .i64 a.cf)
          have o6 := o5.1.stored (i * 8 + 5) (.int .i64 a.ct)
          have o7 := o6.1.stored (i * 8 + 6) (.int .i64 a.cl)
          have o8 := o7.1.stored (i * 8 + 7) (.int .i64 a.o)
          have hnew : Rel (i + 1) (j + 1) ((((((((w3.setCell ⟨g, i * 8, none⟩ (.int .i64 a.s)).setCell ⟨g, i * 8 + 1, none⟩ (.int .i64 a.f)).setCell ⟨g, i * 8 + 2, none⟩ (.int .i64 a.cs)).setCell ⟨g, i * 8 + 3, none⟩ (.int .i64 a.co)).setCell ⟨g, i * 8 + 4, none⟩ (.int .i64 a.cf)).setCell ⟨g, i * 8 + 5, none⟩ (.int .i64 a.ct)).setCell ⟨g, i * 8 + 6, none⟩ (.int .i64 a.cl)).setCell ⟨g, i * 8 + 7, none⟩ (.int .i64 a.o)) := by
            rw [HRel.out]
            refine ⟨X.set i a, by simp [HXN.out], ?_, ?_, by rw [← hst]; exact o8.1, ((((((((hgr3.trans o1.2).trans o2.2).trans o3.2).trans o4.2).trans o5.2).trans o6.2).trans o7.2).trans o8.2)⟩
            · have hget : (X.set i a)[i]? = some a := by simp [hiX]
              rw [take_snoc_ hget, htk.out, if_neg hs, ← HXT.out, List.take_set_of_le (Nat.le_refl _)]
            · rw [List.drop_set_of_lt (by omega)]
              exact hdr.out
          have HNEW := Lib.hid hnew
          have lX3 : LiesA w3 w3.heap.size (some ⟨g, 0, none⟩) X := own_A (l := X) (base := base) (n := n) (c := c) (by rw [HXN.out]; exact hown3)
          obtain ⟨x, hx⟩ := get_of_lt hiX
          obtain ⟨b, off, eb, _, hcs⟩ := lX3.at_ hx
          injection eb with eb
          injection eb with eb1 eb2 _
          subst eb1 eb2
          obtain ⟨c0, c1, c2, c3, c4, c5, c6, c7⟩ := hcs i x hx
          simp only [Nat.zero_add] at c0 c1 c2 c3 c4 c5 c6 c7
          have fz : ∀ k, w3.frozen? ⟨g, k, none⟩ = false := by
            rcases hown3.2 with ⟨h0, _⟩ | ⟨g', cap, cur, hv, _, hh, _⟩
            · cases h0
            · injection hv with hv _ _
              injection hv with hv
              injection hv with hv _ _
              subst hv
              intro k
              simp [World.frozen?, hh]
          have cb3 := ba3.row
          unfold Row at cb3
          have hgne : ¬ wr.heap.size = g := by omega
          have hgne' : ¬ g = wr.heap.size := by omega
          have hic : i < n := by omega
          clear hst o1 o2 o3 o4 o5 o6 o7 o8 hnew hown3 ba3 hs lX3 hx hcs hgr3
          go_wp2_with fail
          go_roundw
          case rel => exact ⟨i + 1, j + 1, by omega, by omega, by go_num, by go_num, HNEW.out⟩
          case measure => simp [intOf]; omega
      · have hje : j = n := by omega
        subst hje
        obtain ⟨w4, hrun, ho4, hg4⟩ := run_clear_ownD (P := Tryz.prog) wr 30 0 66 z0 (.agg #[.int .i64 0, .int .i64 0, .int .i64 0, .int .i64 0, .int .i64 0, .int .i64 0, .int .i64 0, .int .i64 0]) 8 Tryz.underlying30 HI.out.1 HI.out.2.1 rfl (by decide) (by intro u hu; simp [Value.cells] at hu; subst hu; rfl) base g j c i (c - i) (flatA X) hownX hij
        have hci : ¬ c = i := by omega
        have hkl : Hid (KP = X.take i) := Lib.hid (by rw [HKP.out, HXT.out, List.take_of_length_le (by rw [HN.out]; exact Nat.le_refl _)])
        have hlen : Hid (KP.length = i) := Lib.hid (by rw [hkl.out, List.length_take, HXN.out]; omega)
        have hflat : Hid ((flatA X).take (i * 8) = flatA KP) := Lib.hid (by
          have h1 : flatA X = flatA (X.take i) ++ flatA (X.drop i) := by
            unfold flatA
            rw [← List.flatMap_append, List.take_append_drop]
          have h2 : (flatA (X.take i)).length = i * 8 := by
            have h := flat_len (f := Att.row) row_len_A (X.take i)
            rw [List.length_take, HXN.out, Nat.min_eq_left (by omega)] at h
            exact h
          rw [hkl.out, h1, List.take_append_of_le_length (by rw [h2]; exact Nat.le_refl _), List.take_of_length_le (by rw [h2]; exact Nat.le_refl _)])
        have HRUN := Lib.hid hrun
        have HO4 := Lib.hid ho4
        have HG4 := Lib.hid (hgr.trans hg4)
        clear hrun ho4 hg4 hownX
        go_wp2_with fail
        rename_i hK
        rw [HRUN.out]
        simp only [Result.andThen_ok, Oper.upon_value]
        refine hK _ _ ?_
        go_wp2_with fail
        go_ret
        refine ⟨HG4.out, some ⟨g, 0, none⟩, c, rfl, by rw [hlen.out]; rfl, ?_⟩
        rw [hlen.out, ← hflat.out]
        exact HO4.out

end Go.Proofs.YticnppnejafhdaaGreatDoor
/- Abstract states: a list that the frame holds alone, and what DeleteFunc makes of it in place: by hand. -/
namespace Go.Proofs.YticnppnejafhdaaGreatDoor
open Go.RowKit
open Nd Rc Mo
open Av
namespace Av
/-- A row in memory, read. -/
theorem own_repR {R : Reader} {w : World} {base : Nat} {e : TypeId} {sz : Nat} {v : Value} {xs : List (List Value)} (h : w.ownsRow base e sz v xs.length xs.flatten) (hl : ∀ row ∈ xs, row.length = sz) (h1 : ∀ row ∈ xs, ∀ x ∈ row, x.oneCell' = true)
    (hR : ∀ g, v.ownBlock = some g → ∀ (p : Addr) x, p.block = g → w.cell? p = some x → R p = some x) : RepP R (.sl sz (xs.map fun row => row.map PV.v)) v := by
  have hz : ∀ (k : Nat) (row : List PV) (j : Nat) (p : PV), (xs.map fun row => row.map PV.v)[k]? = some row → row[j]? = some p → ∃ x, xs.flatten[k * sz + j]? = some x ∧ RepP R p x := fun k row j p hk hj => by
    rw [List.getElem?_map] at hk
    cases hx : xs[k]? with
    | none => rw [hx] at hk; cases hk
    | some r =>
      rw [hx] at hk
      simp only [Option.map_some, Option.some.injEq] at hk
      subst hk
      rw [List.getElem?_map] at hj
      cases hy : r[j]? with
      | none => rw [hy] at hj; cases hj
      | some y =>
        rw [hy] at hj
        simp only [Option.map_some, Option.some.injEq] at hj
        subst hj
        exact ⟨y, flatten_get hl hx hy, .v y (h1 r (List.mem_of_getElem? hx) y (List.mem_of_getElem? hy))⟩
  have hsz : ∀ (k : Nat) (row : List PV), (xs.map fun row => row.map PV.v)[k]? = some row → row.length = sz := fun k row hk => by
    rw [List.getElem?_map] at hk
    cases hx : xs[k]? with
    | none => rw [hx] at hk; cases hk
    | some r =>
      rw [hx] at hk
      simp only [Option.map_some, Option.some.injEq] at hk
      subst hk
      rw [List.length_map]
      exact hl r (List.mem_of_getElem? hx)
  have hmk : ∀ {A : Option Addr} {cap : Nat}, (xs = [] ∨ ∃ b off, A = some ⟨b, off, none⟩ ∧ ∀ (i : Nat) (x : Value), xs.flatten[i]? = some x → i < xs.length * sz → R ⟨b, off + i, none⟩ = some x) → xs.length ≤ cap → RepP R (.sl sz (xs.map fun row => row.map PV.v)) (.slice A xs.length cap) := fun {A cap} hA hc => by
    have := rep_mk (R := R) (A := A) (cap := cap) (zs := xs.flatten) hsz hz (by
      rcases hA with h2 | ⟨b, off, h2, h3⟩
      · left; rw [h2]; rfl
      · exact .inr ⟨b, off, h2, fun i x hx hi => h3 i x hx (by simpa using hi)⟩) (by simpa using hc)
    simpa using this
  obtain ⟨_, h2⟩ := h
  rcases h2 with ⟨rfl, hn⟩ | ⟨g, cap, cur, rfl, hb, hg, hnc, hcm, hcs, htake⟩
  · have hx : xs = [] := List.eq_nil_of_length_eq_zero hn
    subst hx
    exact hmk (A := none) (cap := 0) (.inl rfl) (Nat.le_refl _)
  · refine hmk (.inr ⟨g, 0, rfl, fun i x hx hi => hR g rfl _ _ rfl ?_⟩) hnc
    rw [Nat.zero_add, cell_of_row w g i cur e (0, 0) hg]
    rw [← htake, List.getElem?_take, if_pos hi] at hx
    rw [← Array.getElem?_toList]
    exact hx
/-- A list that nothing else reads. -/
def ownE (e : TypeId) (sz : Nat) (V : Value) (n : Nat) (xs : List Value) : Ext where
  foot b := V.ownBlock = some b
  froz _ := False
  holds w := w.ownsRow 0 e sz V n xs
  stable h hw := own_kept hw fun g _ hg hb => (h g (.inl hg)).trans hb
theorem own_low {w : World} {base : Nat} {e : TypeId} {sz : Nat} {v : Value} {n : Nat} {xs : List Value} (h : w.ownsRow base e sz v n xs) : w.ownsRow 0 e sz v n xs := by
  obtain ⟨h1, h2⟩ := h
  refine ⟨h1, ?_⟩
  rcases h2 with h2 | ⟨g, cap, cur, e1, _, h2⟩
  · exact .inl h2
  · exact .inr ⟨g, cap, cur, e1, Nat.zero_le _, h2⟩
section
variable {n d : Nat} {σ : St} {o : Oper} {K : St → Prop}
/-- The attempts of a frame, as a list that nothing else reads. -/
theorem hand_attempts {x y z : Operand} {ats : Array TypeId} (r : Rec) (fl fr : Int) (hla : r.al.length ≤ 1000000) (ho : o.op = .call { callee := .value (.func 73), args := #[x, y, z], argTypes := ats }) (hd : o.dst = some d) (hdn : d < n)
    (hx : evo (look σ.slot) x = some (.agg r.pv)) (hy : evo (look σ.slot) y = some (iv fl)) (hz : evo (look σ.slot) z = some (iv fr))
    (h : ∀ V, K (({ σ with ext := σ.ext.and (ownE 66 8 V (ofFrame r.al fl fr).length (flatA (ofFrame r.al fl fr))) } : St).put d (.v V))) : Hand Tryz.prog n σ o K := by
  refine hand_call hd fun F γ a w hF hr => ?_
  obtain ⟨A, D, ca, cd, e1, hA, _⟩ := rec_rep (fun p v hp => hr.cell hp) (evo_ok hr (fun _ _ _ hy => hy) hx).1
  have e2 : a.eval y = .int .i64 fl := (evo_ok hr (fun _ _ _ hy => hy) hy).1
  have e3 : a.eval z = .int .i64 fr := (evo_ok hr (fun _ _ _ hy => hy) hz).1
  refine ⟨73, #[a.eval x, a.eval y, a.eval z], ?_, ?_⟩
  · have henter : Enters Tryz.prog 73 := ⟨Tryz.f73, _, Tryz.func73, by kernel_rfl, rfl⟩
    have hf : a.eval (.func 73) = .func (.func 73) #[] #[] := rfl
    simp [execOp, ho, resolve, hf, Deferred.ofValue, invoke, run_callFunc henter]
  rw [e1, e2, e3]
  refine (attempts2_any r A D ca cd fl fr w hA hla).mono ?_
  rintro e w1 ⟨hb, va, rfl, hown⟩
  have hlow := own_low hown
  refine ⟨va, _, γ, rfl, h va, (hr.turn (Turn.more (fun b hb => (hr.extf b hb).2.1) hr.exth (Turn.below (E := ownE 66 8 va (ofFrame r.al fl fr).length (flatA (ofFrame r.al fl fr))) hb hlow (fun b hb' => .inr ?_) (fun b (hf : False) => hf.elim)))).put (by rw [hF]; exact hdn) rfl (fun k hk => by cases hk)⟩
  rcases hown.2 with ⟨rfl, _⟩ | ⟨g, cap, cur, rfl, hg, hh, _⟩
  · cases hb'
  · simp only [ownE, Value.ownBlock, Option.some.injEq] at hb'
    subst hb'
    exact ⟨hg, (Array.getElem?_eq_some_iff.1 hh).1⟩
/-- DeleteFunc of a list that nothing else reads, with a closure of two numbers. -/
theorem hand_delete {x y : Operand} {ats : Array TypeId} {fid k1 k2 : Nat} {V : Value} {l : List Att} {m1 m2 : Int} (p : Att → Bool) (E0 : Ext) (ho : o.op = .call { callee := .value (.func 72), args := #[x, y], argTypes := ats }) (hd : o.dst = some d) (hdn : d < n)
    (hE : σ.ext = E0.and (ownE 66 8 V l.length (flatA l))) (hx : evo (look σ.slot) x = some (.v V)) (hy : evo (look σ.slot) y = some (.clo fid [(k1, 0), (k2, 0)])) (hb1 : look σ.box k1 = some [ip m1]) (hb2 : look σ.box k2 = some [ip m2]) (hl : l.length ≤ 1000000)
    (hcl : ∀ a : Att, FnOK Tryz.prog fid [.agg a.pv, .ept [ip m1], .ept [ip m2]] ⟨bv (p a), none⟩)
    (h : K (({ σ with ext := E0 } : St).put d (.sl 8 ((keepP p l).map Att.pv)))) : Hand Tryz.prog n σ o K := by
  refine hand_call hd fun F γ a w hF hr => ?_
  have e1 : a.eval x = V := (evo_ok hr (fun _ _ _ hy => hy) hx).1
  have e2 : a.eval y = .func (.func fid) #[] #[.pointer (some ⟨γ.bx k1, 0, none⟩), .pointer (some ⟨γ.bx k2, 0, none⟩)] := (evo_ok hr (fun _ _ _ hy => hy) hy).1
  refine ⟨72, #[a.eval x, a.eval y], ?_, ?_⟩
  · have henter : Enters Tryz.prog 72 := ⟨Tryz.f72, _, Tryz.func72, by kernel_rfl, rfl⟩
    have hf : a.eval (.func 72) = .func (.func 72) #[] #[] := rfl
    simp [execOp, ho, resolve, hf, Deferred.ofValue, invoke, run_callFunc henter]
  have hext := hr.exth
  rw [hE] at hext
  obtain ⟨hh0, hown, hdis⟩ := hext
  have hfoot : ∀ b, V.ownBlock = some b → F.w0.heap.size ≤ b ∧ b < w.heap.size ∧ (∀ k, (look σ.box k).isSome → γ.bx k ≠ b) ∧ (∀ L, (lookL σ.own L).isSome → γ.rw L ≠ some b) := fun b hb => hr.extf b (.inl (by rw [hE]; exact .inr hb))
  obtain ⟨A, c, hV⟩ : ∃ A c, V = .slice A l.length c := by
    rcases hown.2 with ⟨h1, h2⟩ | ⟨g, cap, cur, h1, _⟩
    · exact ⟨none, 0, by rw [h1, h2]⟩
    · exact ⟨_, _, h1⟩
  have hcell : ∀ k m, look σ.box k = some [ip m] → (look σ.box k).isSome ∧ γ.bx k < w.heap.size ∧ w.cell? ⟨γ.bx k, 0, none⟩ = some (.int .i64 m) := fun k m hk => by
    obtain ⟨us, ty, h1, _, h3⟩ := hr.boxes k _ hk
    cases h3 with | cons h3 h4 =>
    cases h4
    cases h3
    refine ⟨by rw [hk]; rfl, (Array.getElem?_eq_some_iff.1 h1).1, ?_⟩
    rw [cell_of_row w _ 0 _ ty (0, 0) h1]
    rfl
  obtain ⟨s1, l1, c1⟩ := hcell k1 m1 hb1
  obtain ⟨s2, l2, c2⟩ := hcell k2 m2 hb2
  rw [e1, e2, hV]
  rw [hV] at hown hfoot hdis
  refine (deleteA_any p fid _ l A c 0 w (fun args w => run_callFunc (hcl ⟨0, 0, 0, 0, 0, 0, 0, 0⟩).1 args w) hown hl (fun W hW x => ?_)).mono ?_
  · have hne : ∀ k, (look σ.box k).isSome → some (γ.bx k) ≠ (Value.slice A l.length c).ownBlock := fun k hk h => (hfoot _ h.symm).2.2.1 k hk rfl
    have hk1 : W.cell? ⟨γ.bx k1, 0, none⟩ = some (.int .i64 m1) := (World.cell?_of_block (hW.block _ l1 (hne k1 s1))).trans c1
    have hk2 : W.cell? ⟨γ.bx k2, 0, none⟩ = some (.int .i64 m2) := (World.cell?_of_block (hW.block _ l2 (hne k2 s2))).trans c2
    have hept : ∀ k m, W.cell? ⟨γ.bx k, 0, none⟩ = some (.int .i64 m) → RepA (fun q => W.cell? q) (fun _ => 0) (.ept [ip m]) (.pointer (some ⟨γ.bx k, 0, none⟩)) := fun k m hk => ⟨_, 0, [.int .i64 m], rfl, .cons (.v _ rfl) .nil, fun i x hx => by
      cases i with
      | zero => simp at hx; subst hx; exact hk
      | succ i => simp at hx⟩
    have := (hcl x).2 W (fun q => W.cell? q) (fun _ _ h => h) [.agg #[.int .i64 x.s, .int .i64 x.f, .int .i64 x.cs, .int .i64 x.co, .int .i64 x.cf, .int .i64 x.ct, .int .i64 x.cl, .int .i64 x.o], .pointer (some ⟨γ.bx k1, 0, none⟩), .pointer (some ⟨γ.bx k2, 0, none⟩)]
      (.cons ⟨_, rfl, rep_of_ints (xs := [.int .i64 x.s, .int .i64 x.f, .int .i64 x.cs, .int .i64 x.co, .int .i64 x.cf, .int .i64 x.ct, .int .i64 x.cl, .int .i64 x.o]) (by intro u hu; simp at hu; rcases hu with rfl | rfl | rfl | rfl | rfl | rfl | rfl | rfl <;> rfl)⟩ rfl (.cons (hept k1 m1 hk1) rfl (.cons (hept k2 m2 hk2) rfl .nil)))
    refine this.mono ?_
    rintro e w' ⟨u, rfl, hb, hres⟩
    exact ⟨by rw [show u = .bool (p x) from hres.2], hb⟩
  · rintro e w1 ⟨hg, A', c', hA', rfl, hown'⟩
    subst hA'
    have hturn : Turn σ.ext w w1 E0 := by
      refine ⟨hg.os, hg.tape, hg.output, hg.size, fun k hk hn => hg.block k hk (fun h => hn (by rw [hE, hV]; exact .inr h.symm)), E0.stable (fun b hb => ?_) hh0, fun b hb => .inl (by rw [hE]; exact .inl hb), fun b hb => .inr (.inl (by rw [hE]; exact .inl hb)), fun w0 h => by rw [hE] at h; exact h.1⟩
      have hlt := (hr.extf b (by rw [hE]; exact hb.elim (fun h => .inl (.inl h)) (fun h => .inr (.inl h)))).2.1
      exact hg.block b hlt (fun h => hdis b hb (.inl h.symm))
    refine ⟨_, _, γ, rfl, h, (hr.turn hturn).put (by rw [hF]; exact hdn) ?_ (fun k hk => by cases hk)⟩
    have hlen : (keepP p l).length = ((keepP p l).map Att.row).length := (List.length_map _).symm
    have hfl : flatA (keepP p l) = ((keepP p l).map Att.row).flatten := by unfold flatA; rw [List.flatMap_def]
    rw [hlen, hfl] at hown'
    rw [hlen, att_pv]
    refine own_repR hown' (fun row hr => by obtain ⟨x, _, rfl⟩ := List.mem_map.1 hr; rfl) (fun row hr x hx => by obtain ⟨y, _, rfl⟩ := List.mem_map.1 hr; simp only [Att.row, List.mem_cons, List.not_mem_nil, or_false] at hx; rcases hx with rfl | rfl | rfl | rfl | rfl | rfl | rfl | rfl <;> rfl) (fun g hgb q x hq hc => ?_)
    have hgb' : (Value.slice A' l.length c).ownBlock = some g := by cases A' with | none => cases hgb | some b => exact hgb
    obtain ⟨f1, f2, f3, f4⟩ := hfoot g hgb'
    unfold rdr
    rw [if_neg (by omega), if_neg]
    · exact hc
    · rintro (⟨k, cs, hk, hpk⟩ | ⟨L, e, sz, rows, q1, q2, q3, q4⟩ | hx)
      · exact f3 k (by rw [show look σ.box k = some cs from hk]; rfl) (by rw [← hpk, hq])
      · exact f4 L (by rw [show lookL σ.own L = some (e, sz) from q1]; rfl) (by rw [q3, hq])
      · exact hdis g (.inl (by rw [← hq]; exact hx)) (.inl hgb')
end
end Av
end Go.Proofs.YticnppnejafhdaaGreatDoor
/- Slots of a frame, for whatever frame can be recorded. -/
namespace Go.Proofs.YticnppnejafhdaaGreatDoor
open Go.RowKit
open Nd Rc Mo
open Av
set_option maxRecDepth 100000
set_option linter.unusedSimpArgs false

set_option maxHeartbeats 1000000 in
theorem releaseW_any (f : Fl) (n : Int) (hf : fault f = 0) (h0 : 0 ≤ n) (h1 : n ≤ 1048576) (w : World) :
    Calls Tryz.prog 106 #[.agg #[.int .i64 f.id, .int .i64 f.fr, .int .i64 f.tn, .int .i64 f.pe, .int .i64 f.ph, .int .i64 f.dl], .int .i64 n] w fun e w' => e = .returned (.tuple #[.int .i64 (rel f n), .int .i64 0]) ∧ Below w.heap.size w w' := by
  have con := fun W => alone_any f W
  rw [hf] at con
  obtain ⟨_, _, _, hp, hq, hdl, _⟩ := fault_zero hf
  have hm0 : 0 ≤ n * f.pe := Int.mul_nonneg h0 (by omega)
  have hm1 : n * f.pe ≤ 1048576 * f.pe := Int.mul_le_mul_of_nonneg_right h1 (by omega)
  unfold rel
  obtain ⟨m, hmm⟩ : ∃ m, m = n * f.pe := ⟨_, rfl⟩
  have hw1 : IntKind.i64.wrap (n * f.pe) = m := by rw [← hmm, IntKind.wrap_i64]; omega
  rw [← hmm] at hm0 hm1 ⊢
  have hw2 : IntKind.i64.wrap (f.ph + m) = f.ph + m := by rw [IntKind.wrap_i64]; omega
  have d0 : decide (n < 0) = false := decide_eq_false (by omega)
  have d1 : decide (1099511627776 < n) = false := decide_eq_false (by omega)
  have d2 : decide (1099511627776 < f.ph + m) = false := decide_eq_false (by omega)
  clear hf
  obtain ⟨id, fr, tn, pe, ph, dl⟩ := f
  dsimp only at *
  have HMM := Lib.hid hmm.symm
  have Con := Lib.hid con
  clear con hmm
  go_enter Tryz.func106, Tryz.ntmps106
  go_wp2_with (first | (go_at_call 152; (with_reducible refine (Con.out _).mono ?_); rintro e w2 ⟨rfl, hb2⟩; have r2 := (Row.new w [.int .i64 id, .int .i64 fr, .int .i64 tn, .int .i64 pe, .int .i64 ph, .int .i64 dl] 28).below hb2 (by simp); unfold Row at r2) | fail)
  go_ret2
  exact ⟨by first | rfl | (rw [HMM.out]; done) | simp [HMM.out], ((Below.refl _ _).alloc (Nat.le_refl _) _).trans (hb2.mono (by simp))⟩

set_option maxHeartbeats 1000000 in
theorem WindowW_any (f : Fl) (n : Int) (hf : fault f = 0) (h0 : 0 ≤ n) (h1 : n ≤ 1048576) (w : World) :
    Calls Tryz.prog 70 #[.agg #[.int .i64 f.id, .int .i64 f.fr, .int .i64 f.tn, .int .i64 f.pe, .int .i64 f.ph, .int .i64 f.dl], .int .i64 n] w fun e w' => e = .returned (.tuple #[.int .i64 (rel f n), .int .i64 (rel f n + f.pe - 1), .int .i64 0]) ∧ Below w.heap.size w w' := by
  have con := fun W => releaseW_any f n hf h0 h1 W
  obtain ⟨_, _, _, hp, hq, hdl, _⟩ := fault_zero hf
  have hm0 : 0 ≤ n * f.pe := Int.mul_nonneg h0 (by omega)
  have hm1 : n * f.pe ≤ 1048576 * f.pe := Int.mul_le_mul_of_nonneg_right h1 (by omega)
  unfold rel at con ⊢
  generalize hmm : n * f.pe = m at *
  clear hmm
  clear hf
  obtain ⟨id, fr, tn, pe, ph, dl⟩ := f
  dsimp only at *
  have Con := Lib.hid con
  clear con
  have hw1 : IntKind.i64.wrap (ph + m + pe - 1) = ph + m + pe - 1 := by rw [IntKind.wrap_i64]; omega
  have hw2 : IntKind.i64.wrap (ph + m + pe) = ph + m + pe := by rw [IntKind.wrap_i64]; omega
  go_enter Tryz.func70, Tryz.ntmps70
  go_wp2_with (first | (go_at_call 106; (with_reducible refine (Con.out _).mono ?_); rintro e w2 ⟨rfl, hb2⟩; have r2 := (Row.new w [.int .i64 id, .int .i64 fr, .int .i64 tn, .int .i64 pe, .int .i64 ph, .int .i64 dl] 28).below hb2 (by simp); unfold Row at r2) | fail)
  go_quiet (fail)
  go_wp2_with fail
  go_ret3
  exact ⟨rfl, below_drewN (((Below.refl _ _).alloc (Nat.le_refl _) _).trans (hb2.mono (by simp))) _⟩

set_option maxHeartbeats 1000000 in
theorem DueW_any (f : Fl) (n : Int) (hf : fault f = 0) (h0 : 0 ≤ n) (h1 : n ≤ 1048576) (w : World) :
    Calls Tryz.prog 71 #[.agg #[.int .i64 f.id, .int .i64 f.fr, .int .i64 f.tn, .int .i64 f.pe, .int .i64 f.ph, .int .i64 f.dl], .int .i64 n] w fun e w' => e = .returned (.tuple #[.int .i64 (rel f n + f.dl - 1), .int .i64 0]) ∧ Below w.heap.size w w' := by
  have con := fun W => releaseW_any f n hf h0 h1 W
  obtain ⟨_, _, _, hp, hq, hdl, _⟩ := fault_zero hf
  have hm0 : 0 ≤ n * f.pe := Int.mul_nonneg h0 (by omega)
  have hm1 : n * f.pe ≤ 1048576 * f.pe := Int.mul_le_mul_of_nonneg_right h1 (by omega)
  unfold rel at con ⊢
  generalize hmm : n * f.pe = m at *
  clear hmm
  clear hf
  obtain ⟨id, fr, tn, pe, ph, dl⟩ := f
  dsimp only at *
  have Con := Lib.hid con
  clear con
  have hw1 : IntKind.i64.wrap (ph + m + dl - 1) = ph + m + dl - 1 := by rw [IntKind.wrap_i64]; omega
  have hw2 : IntKind.i64.wrap (ph + m + dl) = ph + m + dl := by rw [IntKind.wrap_i64]; omega
  go_enter Tryz.func71, Tryz.ntmps71
  go_wp2_with (first | (go_at_call 106; (with_reducible refine (Con.out _).mono ?_); rintro e w2 ⟨rfl, hb2⟩; have r2 := (Row.new w [.int .i64 id, .int .i64 fr, .int .i64 tn, .int .i64 pe, .int .i64 ph, .int .i64 dl] 28).below hb2 (by simp); unfold Row at r2) | fail)
  go_ret2
  exact ⟨rfl, ((Below.refl _ _).alloc (Nat.le_refl _) _).trans (hb2.mono (by simp))⟩

set_option maxHeartbeats 1000000 in
theorem rrelW_any (f : Fl) (n : Int) (hf : fault f = 0) (h0 : 0 ≤ n) (h1 : n ≤ 1048576) (w : World) :
    Calls Tryz.prog 79 #[.agg #[.int .i64 f.id, .int .i64 f.fr, .int .i64 f.tn, .int .i64 f.pe, .int .i64 f.ph, .int .i64 f.dl], .int .i64 n] w fun e w' => e = .returned (.int .i64 (rel f n)) ∧ Below w.heap.size w w' := by
  obtain ⟨_, _, _, hp, hq, hdl, _⟩ := fault_zero hf
  have hm0 : 0 ≤ n * f.pe := Int.mul_nonneg h0 (by omega)
  have hm1 : n * f.pe ≤ 1048576 * f.pe := Int.mul_le_mul_of_nonneg_right h1 (by omega)
  unfold rel
  obtain ⟨m, hmm⟩ : ∃ m, m = n * f.pe := ⟨_, rfl⟩
  have hw1 : IntKind.i64.wrap (n * f.pe) = m := by rw [← hmm, IntKind.wrap_i64]; omega
  rw [← hmm] at hm0 hm1 ⊢
  have hw2 : IntKind.i64.wrap (f.ph + m) = f.ph + m := by rw [IntKind.wrap_i64]; omega
  clear hf
  obtain ⟨id, fr, tn, pe, ph, dl⟩ := f
  dsimp only at *
  have HMM := Lib.hid hmm.symm
  clear hmm
  go_enter Tryz.func79, Tryz.ntmps79
  go_wp2_with fail
  go_ret
  exact ⟨by first | rfl | (rw [HMM.out]; done) | simp [HMM.out], by first | exact (Below.refl _ _).alloc (Nat.le_refl _) _ | exact Below.refl _ _⟩

theorem window_okW (f : Fl) (n : Int) (hf : fault f = 0) (h0n : 0 ≤ n) (h1n : n ≤ 1048576) : FnOK Tryz.prog 70 [.agg f.pv, iv n] ⟨.tup [.c (ip (rel f n)), .c (ip (rel f n + f.pe - 1)), .c (ip 0)], none⟩ := fn_of ⟨Tryz.f70, _, Tryz.func70, by kernel_rfl, rfl⟩ fun w R hR us hus => by
  cases hus with | cons h0 _ hus =>
  cases hus with | cons h1 _ hus =>
  cases hus
  rw [fl_rep h0, h1]
  refine (WindowW_any f n hf h0n h1n w).mono ?_
  rintro e w' ⟨rfl, hb⟩
  exact ⟨_, rfl, hb, rfl, _, rfl, .cons (.c (.v _ rfl)) (.cons (.c (.v _ rfl)) (.cons (.c (.v _ rfl)) .nil))⟩

theorem due_okW (f : Fl) (n : Int) (hf : fault f = 0) (h0n : 0 ≤ n) (h1n : n ≤ 1048576) : FnOK Tryz.prog 71 [.agg f.pv, iv n] ⟨.tup [.c (ip (rel f n + f.dl - 1)), .c (ip 0)], none⟩ := fn_of ⟨Tryz.f71, _, Tryz.func71, by kernel_rfl, rfl⟩ fun w R hR us hus => by
  cases hus with | cons h0 _ hus =>
  cases hus with | cons h1 _ hus =>
  cases hus
  rw [fl_rep h0, h1]
  refine (DueW_any f n hf h0n h1n w).mono ?_
  rintro e w' ⟨rfl, hb⟩
  exact ⟨_, rfl, hb, res_vv rfl rfl⟩

theorem rrel_okW (f : Fl) (n : Int) (hf : fault f = 0) (h0n : 0 ≤ n) (h1n : n ≤ 1048576) : FnOK Tryz.prog 79 [.agg f.pv, iv n] ⟨iv (rel f n), none⟩ := fn_of ⟨Tryz.f79, _, Tryz.func79, by kernel_rfl, rfl⟩ fun w R hR us hus => by
  cases hus with | cons h0 _ hus =>
  cases hus with | cons h1 _ hus =>
  cases hus
  rw [fl_rep h0, h1]
  refine (rrelW_any f n hf h0n h1n w).mono ?_
  rintro e w' ⟨rfl, hb⟩
  exact ⟨_, rfl, hb, res_v⟩
end Go.Proofs.YticnppnejafhdaaGreatDoor
/- Plain facts about what a check of an explanation asks. -/
namespace Go.Proofs.YticnppnejafhdaaGreatDoor
open Go.RowKit
open Nd Rc Mo
open Av

theorem att_len (al : List Att) (fl fr a b : Int) : (onLk al fl fr a b).length ≤ al.length := by
  unfold onLk ofFrame
  exact Nat.le_trans (List.length_filter_le _ _) (List.length_filter_le _ _)

theorem onB_iff {x y : Int} : ∀ {p : List Int}, onB p x y = true ↔ ∃ i : Nat, p[i]? = some x ∧ p[i + 1]? = some y
  | [] => by simp [onB]
  | [a] => by simp [onB]
  | a :: b :: p => by
    rw [onB, Bool.or_eq_true, Bool.and_eq_true, beq_iff_eq, beq_iff_eq, onB_iff]
    constructor
    · rintro (⟨rfl, rfl⟩ | ⟨i, h1, h2⟩)
      · exact ⟨0, rfl, rfl⟩
      · exact ⟨i + 1, h1, h2⟩
    · rintro ⟨i, h1, h2⟩
      cases i with
      | zero => simp at h1 h2; exact .inl ⟨h1, h2⟩
      | succ i => exact .inr ⟨i, by simpa using h1, by simpa using h2⟩
theorem dup_lt {p : List Int} (h : dupB p = false) {i j : Nat} {x : Int} (hi : p[i]? = some x) (hj : p[j]? = some x) : ¬ j < i := by
  intro hlt
  have : dupB p = true := by
    refine List.any_eq_true.2 ⟨i, List.mem_range.2 (List.getElem?_eq_some_iff.1 hi).1, ?_⟩
    unfold dupAt
    refine List.any_eq_true.2 ⟨x, List.mem_of_getElem? (i := j) (by rw [List.getElem?_take_of_lt hlt, hj]), ?_⟩
    rw [List.getD_eq_getElem?_getD, hi]
    simp
  rw [h] at this
  cases this
theorem route_dup {n : Net} {a b : Int} {p : List Int} (h : routeE n a b p = 0) : dupB p = false := by
  cases hq : dupB p with
  | false => rfl
  | true =>
    exfalso
    unfold routeE at h
    rw [if_pos hq] at h
    split at h
    · cases h
    split at h
    · cases h
    split at h
    · cases h
    split at h
    · cases h
    cases h
theorem onB_at {n : Net} {a b : Int} {p : List Int} (h : routeE n a b p = 0) {i : Nat} {x y : Int} (hi : p[i]? = some x) : onB p x y = true ↔ p[i + 1]? = some y := by
  rw [onB_iff]
  constructor
  · rintro ⟨j, h1, h2⟩
    have g1 := dup_lt (route_dup h) hi h1
    have g2 := dup_lt (route_dup h) h1 hi
    obtain rfl : j = i := by omega
    exact h2
  · exact fun h2 => ⟨i, hi, h2⟩
theorem mem_causesX {n : Net} {f : Fl} {r : Rec} {fr a b : Int} {y : Br} (h : y ∈ causesX n f r fr a b) : y = ⟨f.id, fr, a, b, y.sl⟩ := by
  unfold causesX causesK at h
  obtain ⟨i, _, h⟩ := List.mem_flatMap.1 h
  unfold causeAt at h
  split at h
  · rw [List.mem_singleton.1 h]
  · cases h
theorem causesX_len {n : Net} {f : Fl} {r : Rec} {fr a b : Int} : (causesX n f r fr a b).length ≤ r.al.length := by
  unfold causesX
  refine Nat.le_trans (causesK_len _ _ _ _ _ _ _ _ _) ?_
  have := att_len r.al f.id fr a b
  omega
theorem contains_X {n : Net} {f : Fl} {r : Rec} {fr : Int} {c : Br} : (causesX n f r fr c.fm c.tt).contains c = (c.fl == f.id && (c.fr == fr && (causesX n f r fr c.fm c.tt).any fun y => decide (y.sl = c.sl))) := by
  rw [Bool.eq_iff_iff, List.contains_iff_mem, Bool.and_eq_true, Bool.and_eq_true, beq_iff_eq, beq_iff_eq, List.any_eq_true]
  constructor
  · intro h
    have h1 := mem_causesX h
    refine ⟨by rw [h1], by rw [h1], c, h, by simp⟩
  · rintro ⟨h1, h2, y, hy, h3⟩
    have h4 := mem_causesX hy
    have h5 : y = c := by
      rw [h4, ← h1, ← h2, of_decide_eq_true h3]
    rw [← h5, h5] at hy
    exact hy
theorem zip_all {α β : Type} {q : α × β → Bool} {l : List α} {m : List β} (h : ∀ (j : Nat) x y, l[j]? = some x → m[j]? = some y → q (x, y) = true) : (List.zip l m).all q = true := by
  rw [List.all_eq_true]
  rintro ⟨x, y⟩ hz
  obtain ⟨j, hj⟩ := List.mem_iff_getElem?.1 hz
  rw [List.getElem?_zip_eq_some] at hj
  exact h j x y hj.1 hj.2
theorem zip_not {α β : Type} {q : α × β → Bool} {l : List α} {m : List β} {j : Nat} {x : α} {y : β} (hx : l[j]? = some x) (hy : m[j]? = some y) (h : q (x, y) = false) : (List.zip l m).all q = false := by
  rw [Bool.eq_false_iff]
  intro h2
  have : (x, y) ∈ List.zip l m := List.mem_of_getElem? (i := j) (List.getElem?_zip_eq_some.2 ⟨hx, hy⟩)
  rw [List.all_eq_true] at h2
  rw [h2 _ this] at h
  cases h

theorem sl_len {n : Net} {f : Fl} {r : Rec} {fr a b : Int} {y : Br} (h : y ∈ causesX n f r fr a b) : y.sl.length ≤ r.al.length := by
  have hl := att_len r.al f.id fr a b
  unfold causesX causesK at h
  obtain ⟨i, _, h⟩ := List.mem_flatMap.1 h
  unfold causeAt at h
  split at h
  · rw [List.mem_singleton.1 h]
    simp only [List.length_map, List.length_take, List.length_drop]
    omega
  · cases h
end Go.Proofs.YticnppnejafhdaaGreatDoor
/- A string out of bytes: by hand. -/
namespace Go.Proofs.YticnppnejafhdaaGreatDoor
open Go.RowKit
open Nd Rc Mo
open Av
theorem Tryz.sz5 : (Tryz.prog.info? 5).map (·.size) = some 1 := by kernel_rfl
theorem Tryz.zr5 : (Tryz.prog.info? 5).map (·.zero) = some (some (.int .u8 0)) := by kernel_rfl
theorem Tryz.pl5 (k : Nat) : (Tryz.prog.info? 5).map (fun t => (k, t.size)) = some (k, 1) := by
  have h := Tryz.sz5
  cases hi : Tryz.prog.info? 5 with
  | none => rw [hi] at h; cases h
  | some i => rw [hi] at h; simp only [Option.map_some, Option.some.injEq] at h ⊢; rw [h]
theorem Tryz.is5 : (Tryz.prog.info? 5).isSome = true := by kernel_rfl
theorem Tryz.by5 : (Tryz.prog.info? 5).map (fun j => decide (j.bytes ≤ 1000000)) = some true := by kernel_rfl
theorem Tryz.sz134 : (Tryz.prog.info? 134).map (·.size) = some 1 := by kernel_rfl
theorem Tryz.zr134 : (Tryz.prog.info? 134).map (·.zero) = some (some (.slice none 0 0)) := by kernel_rfl
theorem Tryz.pl134 (k : Nat) : (Tryz.prog.info? 134).map (fun t => (k, t.size)) = some (k, 1) := by
  have h := Tryz.sz134
  cases hi : Tryz.prog.info? 134 with
  | none => rw [hi] at h; cases h
  | some i => rw [hi] at h; simp only [Option.map_some, Option.some.injEq] at h ⊢; rw [h]
theorem Tryz.is134 : (Tryz.prog.info? 134).isSome = true := by kernel_rfl
theorem Tryz.by134 : (Tryz.prog.info? 134).map (fun j => decide (j.bytes ≤ 1000000)) = some true := by kernel_rfl
section
variable {n d : Nat} {σ : St} {o : Oper} {K : St → Prop}
theorem hand_bytes {x : Operand} {S D e : TypeId} {zs : List Int} (ho : o.op = .convert S D x) (hd : o.dst = some d) (hdn : d < n) (hx : evo (Av.look σ.slot) x = some (.sl 1 (zs.map fun z => [.v (.int .u8 z)]))) (hne : zs ≠ []) (hS : Tryz.prog.underlying S = some (.slice e)) (he : Tryz.prog.underlying e = some (.int .u8)) (hD : Tryz.prog.underlying D = some .string)
    (h : K (σ.put d (.v (.string (strOfNums zs))))) : Hand Tryz.prog n σ o K := by
  refine hand_value hd hdn fun F γ a w hF hr => ⟨.v (.string (strOfNums zs)), .string (strOfNums zs), w, σ.ext, ?_, Turn.same hr.exth (fun _ h => h) (fun _ h => .inr h), rfl, fun k hk => (by cases hk), h⟩
  have hrow : (zs.map fun z => [PV.v (.int .u8 z)]) = (zs.map fun z => [Value.int .u8 z]).map fun row => row.map PV.v := by rw [List.map_map]; rfl
  obtain ⟨A, cap, e1, hA⟩ := lies_of_rep (fun p v hp => hr.cell hp) (by decide) (show RepP _ (.sl 1 ((zs.map fun z => [Value.int .u8 z]).map fun row => row.map PV.v)) (a.eval x) from hrow ▸ (evo_ok hr (fun _ _ _ hy => hy) hx).1)
  rw [List.length_map] at e1
  obtain ⟨b, off, rfl, _, hc⟩ := hA (by simpa using hne)
  have hrun := run_convert_bytes_arg (P := Tryz.prog) w S e hS he b off zs.length cap zs rfl (fun i hi => by
    have hz : zs[i]? = some (zs.getD i 0) := by rw [List.getD_eq_getElem?_getD, List.getElem?_eq_getElem hi]; rfl
    have h1 := hc i [Value.int .u8 (zs.getD i 0)] (by rw [List.getElem?_map, hz]; rfl) 0 _ rfl
    simpa using h1) D hD
  simp [execOp, ho, e1, hrun]
end
end Go.Proofs.YticnppnejafhdaaGreatDoor
/- Walk: Losses of package record, with its closure. -/
namespace Go.Proofs.YticnppnejafhdaaGreatDoor
open Go.RowKit
open Rc

/-- The values vs are slices that own the runs out, each in a block below R. -/
def Runs (w : World) (B R : Nat) (vs : List Value) (out : List (List Int)) : Prop :=
  vs.length = out.length ∧ ∀ (i : Nat) (v : Value) (l : List Int), vs[i]? = some v → out[i]? = some l → w.ownsRow B 3 1 v l.length (l.map (Value.int .i64)) ∧ ∀ g, v.ownBlock = some g → g < R

theorem Runs.kept {w w' : World} {B R R' : Nat} {vs : List Value} {out : List (List Int)} (h : Runs w B R vs out) (hR : R ≤ R') (hk : ∀ g cs, B ≤ g → g < R → Blk w g 3 cs → Blk w' g 3 cs) : Runs w' B R' vs out :=
  ⟨h.1, fun i v l hv hl => by
    obtain ⟨h1, h2⟩ := h.2 i v l hv hl
    exact ⟨own_kept h1 fun g cs hg hb => hk g cs (h1.lt g hg).1 (h2 g hg) hb, fun g hg => Nat.lt_of_lt_of_le (h2 g hg) hR⟩⟩
theorem Runs.nil (w : World) (B R : Nat) : Runs w B R [] [] := ⟨rfl, fun i v l hv => by simp at hv⟩
end Go.Proofs.YticnppnejafhdaaGreatDoor
/- Walk: Attempts of the reference. -/
namespace Go.Proofs.YticnppnejafhdaaGreatDoor
open Go.RowKit
open Rc

set_option maxRecDepth 100000 in
set_option maxHeartbeats 8000000 in
theorem rattempts_any (r : Rec) (A D : Option Addr) (ca cd : Nat) (flow frame : Int) (w : World) (hA : LiesA w w.heap.size A r.al) (hla : r.al.length ≤ 1000000) :
    Calls Tryz.prog 80 #[.agg #[.int .i64 r.slots, .slice A r.al.length ca, .slice D r.dl.length cd], .int .i64 flow, .int .i64 frame] w fun e w' => Below w.heap.size w w' ∧ ∃ va, e = .returned va ∧ w'.ownsRow w.heap.size 66 8 va (ofFrame r.al flow frame).length (flatA (ofFrame r.al flow frame)) := by
  obtain ⟨slots, al, dl⟩ := r
  dsimp only at *
  obtain ⟨na, hna⟩ : ∃ n, n = al.length := ⟨_, rfl⟩
  obtain ⟨nd, hnd⟩ : ∃ n, n = dl.length := ⟨_, rfl⟩
  rw [← hna, ← hnd]
  rw [← hna] at hla
  have HA := Lib.hid hna
  clear hna hnd
  obtain ⟨F, hF⟩ : ∃ F, F = ofFrame al flow frame := ⟨_, rfl⟩
  rw [← hF]
  have HF := Lib.hid hF
  clear hF
  obtain ⟨i0, hi, hz0, hz1, hz2⟩ := info_parts Tryz.infoAtt
  go_enter Tryz.func80, Tryz.ntmps80
  go_wp2_with fail
  generalize hW0 : World.alloc _ _ = W0
  have bR : Blk W0 w.heap.size 35 [.int .i64 slots, .slice A na ca, .slice D nd cd] := by rw [← hW0]; exact Blk.new' _ [.int .i64 slots, .slice A na ca, .slice D nd cd] rfl
  have hb0 : Below w.heap.size w W0 := by rw [← hW0]; exact (Below.refl _ _).alloc (Nat.le_refl _) _
  clear hW0
  obtain ⟨N, hN⟩ : ∃ N, N = w.heap.size := ⟨_, rfl⟩
  rw [← hN] at bR hb0 ⊢
  have hA' : LiesA w N A al := by rw [hN]; exact hA
  have HN := Lib.hid hN
  clear hN hA
  go_loopw [7, 8] (fun s7 i wr => ∃ (k : Nat) (acc : List Att) (va : Value), va = s7 ∧ Blk wr N 35 [.int .i64 slots, .slice A na ca, .slice D nd cd] ∧ k ≤ na ∧ i = .int .i64 k ∧ acc.length ≤ k ∧ wr.ownsRow (N + 1) 66 8 va acc.length (flatA acc) ∧ Below N w wr ∧ N + 1 ≤ wr.heap.size ∧ Hid (F = acc ++ ofFrame (al.drop k) flow frame)) (fun _ i _ => na - (intOf i).toNat)
  case atStart => exact ⟨0, [], _, rfl, bR, Nat.zero_le _, rfl, Nat.le_refl _, World.ownsRow_nil _ _ _ _, hb0, bR.lt, Lib.hid (by rw [HF.out]; simp)⟩
  case round =>
    obtain ⟨k, acc, va, rfl, bR2, hk, rfl, hal, hown, hb, hMw, hst⟩ := hrel
    have cR := bR2.row
    unfold Row at cR
    by_cases hlt : k < na
    · obtain ⟨a, ha⟩ := get_of_lt (l := al) (k := k) (by rw [← HA.out]; exact hlt)
      obtain ⟨b, off, rfl, hbB, hcs⟩ := (hA'.below hb).at_ ha
      obtain ⟨c0, c1, c2, c3, c4, c5, c6, c7⟩ := hcs k a ha
      have hd := Lib.hid (drop_of_get ha)
      have hvl : ∀ g, va.ownBlock = some g → N + 1 ≤ g ∧ g < wr.heap.size := hown.lt
      have HV := Lib.hid hvl
      clear hcs ha hvl
      go_upto_region 6 with fail
      generalize hW1 : wr.alloc _ = W1
      have ba : Blk W1 wr.heap.size 66 [.int .i64 a.s, .int .i64 a.f, .int .i64 a.cs, .int .i64 a.co, .int .i64 a.cf, .int .i64 a.ct, .int .i64 a.cl, .int .i64 a.o] := by rw [← hW1]; exact Blk.new' _ [.int .i64 a.s, .int .i64 a.f, .int .i64 a.cs, .int .i64 a.co, .int .i64 a.cf, .int .i64 a.ct, .int .i64 a.cl, .int .i64 a.o] rfl
      have hb1 : Below N w W1 := by rw [← hW1]; exact hb.alloc (by omega) _
      have hsz : wr.heap.size + 1 ≤ W1.heap.size := by rw [← hW1]; simp
      have hown1 : W1.ownsRow (N + 1) 66 8 va acc.length (flatA acc) := by rw [← hW1]; exact hown.alloc _
      have bR3 : Blk W1 N 35 [.int .i64 slots, .slice (some ⟨b, off, none⟩) na ca, .slice D nd cd] := by rw [← hW1]; exact bR2.alloc _
      have ca' := ba.row
      unfold Row at ca'
      clear cR bR2 hW1 c0 c1 c2 c3 c4 c5 c6 c7 hown
      by_cases hm : a.cl = flow ∧ a.f = frame
      · obtain ⟨h1, h2⟩ := hm
        have e1 : (a.cl == flow) = true := by simp [h1]
        have e2 : (a.f == frame) = true := by simp [h2]
        have hst' : Hid (F = (acc ++ [a]) ++ ofFrame (al.drop (k + 1)) flow frame) := Lib.hid (by rw [hst.out, hd.out]; simp [ofFrame, h1, h2])
        have HO := Lib.hid hown1
        clear hown1 hst h1 h2
        go_wp2_with (at_builtin; refine wpList_append_own_at _ rfl (.tmp 35) (.tmp 37) 30 rfl (N + 1) 66 i0 (.agg #[.int .i64 0, .int .i64 0, .int .i64 0, .int .i64 0, .int .i64 0, .int .i64 0, .int .i64 0, .int .i64 0]) 8 64 Tryz.underlying30 hi hz0 hz1 hz2 rfl (by decide) va acc.length (flatA acc) rfl (HO.out.alloc _) ⟨W1.heap.size, 0, none⟩ 1 1 [.int .i64 a.s, .int .i64 a.f, .int .i64 a.cs, .int .i64 a.co, .int .i64 a.cf, .int .i64 a.ct, .int .i64 a.cl, .int .i64 a.o] rfl rfl ?e0 ?e1 ?e2 ?e3 ?e4 ?_)
        case e0 => exact (Blk.new' 66 [.int .i64 a.s, .int .i64 a.f, .int .i64 a.cs, .int .i64 a.co, .int .i64 a.cf, .int .i64 a.ct, .int .i64 a.cl, .int .i64 a.o] rfl).news
        case e1 => exact ints_one (l := [a.s, a.f, a.cs, a.co, a.cf, a.ct, a.cl, a.o])
        case e2 => unfold maxLen; omega
        case e3 => omega
        case e4 => simp; omega
        intro v3 w3 ho3 hg3 hnil3 hat3
        clear hnil3 hat3
        have hb3 : Below N w w3 := (hb1.alloc (by omega) _).grown hg3 (by simp; omega) (by intro g hg; have := HV.out g hg; omega)
        have hz3 : N + 1 ≤ w3.heap.size := by have := hg3.size; simp at this; omega
        have bR4 : Blk w3 N 35 [.int .i64 slots, .slice (some ⟨b, off, none⟩) na ca, .slice D nd cd] := (bR3.alloc _).grown_ hg3 (by intro e; have := HV.out _ e.symm; omega)
        have O3 : w3.ownsRow (N + 1) 66 8 v3 (acc ++ [a]).length (flatA (acc ++ [a])) := by simpa [flatA, Att.row] using ho3
        obtain ⟨A3, c3, hv3⟩ := own_form ho3
        clear ho3 hg3 HO
        subst hv3
        go_wp2_with fail
        go_roundw
        case rel => exact ⟨k + 1, acc ++ [a], _, rfl, bR4, by omega, by go_num, by simp; omega, O3, hb3, hz3, hst'⟩
        case measure => simp [intOf]; omega
      · have hst' : Hid (F = acc ++ ofFrame (al.drop (k + 1)) flow frame) := Lib.hid (by
          rw [hst.out, hd.out]
          have : (a.cl == flow && a.f == frame) = false := by
            rw [Bool.eq_false_iff]
            intro h
            simp at h
            exact hm h
          simp only [ofFrame, List.filter_cons, this, Bool.false_eq_true, if_false])
        clear hst
        by_cases h1 : a.cl = flow
        · have h2 : ¬ a.f = frame := fun h => hm ⟨h1, h⟩
          have e1 : (a.cl == flow) = true := by simp [h1]
          have e2 : (a.f == frame) = false := by simp [h2]
          go_wp2_with fail
          go_roundw
          case rel => exact ⟨k + 1, acc, _, rfl, bR3, by omega, by go_num, by omega, hown1, hb1, by omega, hst'⟩
          case measure => simp [intOf]; omega
        · have e1 : (a.cl == flow) = false := by simp [h1]
          go_wp2_with fail
          go_roundw
          case rel => exact ⟨k + 1, acc, _, rfl, bR3, by omega, by go_num, by omega, hown1, hb1, by omega, hst'⟩
          case measure => simp [intOf]; omega
    · have hst' : Hid (F = acc) := Lib.hid (by rw [hst.out, List.drop_of_length_le (by rw [← HA.out]; omega)]; simp [ofFrame])
      obtain ⟨A3, c3, hv3⟩ := own_form hown
      have HO := Lib.hid hown
      clear hst hown
      subst hv3
      go_wp2_with fail
      go_ret
      exact ⟨by rw [← HN.out]; exact hb, _, rfl, by rw [hst'.out, ← HN.out]; exact own_weak HO.out (by omega)⟩

end Go.Proofs.YticnppnejafhdaaGreatDoor
/- What an argument's reading says of its cells, for types made of integers, bools, strings, structs and slices. Generic: no program's numbers. -/
namespace Go.Proofs.YticnppnejafhdaaGreatDoor
open Go.RowKit Go.ChangeShapes Go.WideShapes Go.Deep

/-- Shapes of types; the fields of a struct by 'nil' and 'cons'. -/
inductive Ty where
  | int (k : IntKind)
  | bool
  | str
  | slice (e : Ty)
  | struct (l : Ty)
  | nil
  | cons (a l : Ty)

def Ty.cells : Ty → Nat
  | .int _ | .bool | .str | .slice _ => 1
  | .struct l => l.cells
  | .nil => 0
  | .cons a l => a.cells + l.cells

mutual
def Ty.fits (P : Program) : Ty → TypeId → Bool
  | .int k, t => match P.underlying t with
    | some (.int k') => decide (k = k')
    | _ => false
  | .bool, t => match P.underlying t with
    | some .bool => true
    | _ => false
  | .str, t => match P.underlying t with
    | some .string => true
    | _ => false
  | .slice e, t => match P.underlying t with
    | some (.slice u) => e.fits P u && P.cellsOf u == e.cells
    | _ => false
  | .struct l, t => match P.underlying t with
    | some (.struct fs) => l.fitsF P fs.toList 0
    | _ => false
  | .nil, _ => false
  | .cons _ _, _ => false
def Ty.fitsF (P : Program) : Ty → List Field → Nat → Bool
  | .nil, [], _ => true
  | .cons a l, f :: fs, off => f.offset == off && (P.cellsOf f.type == a.cells && (a.fits P f.type && l.fitsF P fs (off + a.cells)))
  | _, _, _ => false
end

/-- The cells cs hold a value of that shape. -/
def Ty.holds (w : World) : Ty → List Value → Prop
  | .int k, cs => ∃ n, cs = [.int k n] ∧ (Lit.int k n).wf = true
  | .bool, cs => ∃ b, cs = [.bool b]
  | .str, cs => ∃ s : ByteArray, cs = [.string s] ∧ s.size ≤ maxLen
  | .slice e, cs => ∃ A n c, cs = [.slice A n c] ∧ n ≤ c ∧ c ≤ maxLen ∧ (A = none → n = 0) ∧ ∀ a, A = some a → ∀ i, i < n → ∃ es, es.length = e.cells ∧ e.holds w es ∧ ∀ j u, es[j]? = some u → w.cell? (a.add (i * e.cells + j)) = some u
  | .struct l, cs => l.holds w cs
  | .nil, _ => True
  | .cons a l, cs => a.holds w (cs.take a.cells) ∧ l.holds w (cs.drop a.cells)

section
variable {H : Type} {enc : TypeId × Value → H} {P : Program} {w : World} {base : Nat} {spare : Nat → Bool} {held : Bool}

theorem add_add_ (a : Addr) (i j : Nat) : (a.add i).add j = a.add (i + j) := (Go.Deep.add_add a i j)

mutual
theorem Ty.holds_of : ∀ (τ : Ty) (t : TypeId) (fuel : Nat) (cs : List Value) (x : DataW H × List MemPlace), τ.fits P t = true → DataW.trod enc P w base spare held fuel t cs = some x → τ.holds w cs
  | .int k, t, fuel, cs, x, hf, h => by
    simp only [Ty.fits] at hf
    split at hf
    · rename_i k' hu
      obtain rfl : k = k' := by simpa using hf
      obtain ⟨n, e, _, hw⟩ := DataW.trod_int hu h
      exact ⟨n, e, hw⟩
    · cases hf
  | .bool, t, fuel, cs, x, hf, h => by
    simp only [Ty.fits] at hf
    split at hf
    · rename_i hu
      obtain ⟨n, e, _⟩ := DataW.trod_bool hu h
      exact ⟨n, e⟩
    · cases hf
  | .str, t, fuel, cs, x, hf, h => by
    simp only [Ty.fits] at hf
    split at hf
    · rename_i hu
      obtain ⟨n, e, _, hl⟩ := DataW.trod_string hu h
      exact ⟨n, e, hl⟩
    · cases hf
  | .slice e, t, fuel, cs, x, hf, h => by
    simp only [Ty.fits] at hf
    split at hf
    · rename_i u hu
      simp only [Bool.and_eq_true, beq_iff_eq] at hf
      obtain ⟨hfe, hce⟩ := hf
      rcases open_slice hu h with ⟨rfl, _⟩ | ⟨a, len, cap, m, n, D, Pl, rfl, hb, hl, hm, hmm, _, hel⟩
      · exact ⟨none, 0, 0, rfl, Nat.le_refl _, Nat.zero_le _, fun _ => rfl, fun a ha => by cases ha⟩
      · refine ⟨some a, len, cap, rfl, hl, hm, fun h0 => (by cases h0), fun a' ha i hi => ?_⟩
        cases ha
        have him : i < m := by rw [hmm]; split <;> omega
        obtain ⟨cs', hc, ht⟩ := hel i him
        rw [hce] at hc
        obtain ⟨_, hlen, hat⟩ := World.cells?_some hc
        refine ⟨cs', hlen, Ty.holds_of e u n cs' _ hfe ht, fun j v hv => ?_⟩
        have hj : j < e.cells := by rw [← hlen]; exact (List.getElem?_eq_some_iff.1 hv).1
        have := hat j hj
        rw [add_add_] at this
        rw [this, hv]
    · cases hf
  | .struct l, t, fuel, cs, x, hf, h => by
    simp only [Ty.fits] at hf
    split at hf
    · rename_i fs hu
      obtain ⟨xs, n, _, _, _, hlen, hff⟩ := DataW.trod_struct hu h
      have := Ty.holds_ofF l fs.toList 0 cs n hf (fun f hm => by
        obtain ⟨i, hi, e⟩ := List.getElem_of_mem hm
        have hi' : i < fs.size := by simpa using hi
        have h1 : fs[i]? = some f := by rw [Array.getElem?_eq_getElem hi']; simpa using e
        have h2 := hff i f h1
        rw [List.getElem?_eq_getElem (by omega)] at h2
        exact ⟨_, h2⟩)
      simpa [Ty.holds] using this
    · cases hf
  | .nil, _, _, _, _, hf, _ => by simp [Ty.fits] at hf
  | .cons _ _, _, _, _, _, hf, _ => by simp [Ty.fits] at hf
theorem Ty.holds_ofF : ∀ (l : Ty) (fs : List Field) (off : Nat) (cs : List Value) (n : Nat), l.fitsF P fs off = true → (∀ f ∈ fs, ∃ y, DataW.trod enc P w base spare held n f.type ((cs.drop f.offset).take (P.cellsOf f.type)) = some y) → l.holds w (cs.drop off)
  | .nil, _, _, _, _, _, _ => by simp [Ty.holds]
  | .cons a l, [], _, _, _, hf, _ => by simp [Ty.fitsF] at hf
  | .cons a l, f :: fs, off, cs, n, hf, h => by
    simp only [Ty.fitsF, Bool.and_eq_true, beq_iff_eq] at hf
    obtain ⟨h1, h2, h3, h4⟩ := hf
    obtain ⟨y, hy⟩ := h f List.mem_cons_self
    rw [h1, h2] at hy
    refine ⟨Ty.holds_of a f.type n _ _ h3 hy, ?_⟩
    rw [List.drop_drop]
    exact Ty.holds_ofF l fs (off + a.cells) cs n h4 fun g hg => h g (List.mem_cons_of_mem _ hg)
  | .int _, _, _, _, _, hf, _ => by simp [Ty.fitsF] at hf
  | .bool, _, _, _, _, hf, _ => by simp [Ty.fitsF] at hf
  | .str, _, _, _, _, hf, _ => by simp [Ty.fitsF] at hf
  | .slice _, _, _, _, _, hf, _ => by simp [Ty.fitsF] at hf
  | .struct _, _, _, _, _, hf, _ => by simp [Ty.fitsF] at hf
end

theorem Ty.holds_trod {τ : Ty} {t : TypeId} {v : Value} {d : DataW H} {p : List MemPlace} (hf : τ.fits P t = true) (h : DataW.Trod enc P w base spare held t v d p) : τ.holds w v.cells.toList := by
  obtain ⟨fuel, h⟩ := h
  exact Ty.holds_of τ t fuel _ _ hf h
end

theorem cell_lt {w : World} {a : Addr} {u : Value} (h : w.cell? a = some u) : a.block < w.heap.size ∧ a.spot = none := by
  unfold World.cell? at h
  split at h
  · rename_i c t fr hh
    refine ⟨?_, ?_⟩
    · rcases Nat.lt_or_ge a.block w.heap.size with h' | h'
      · exact h'
      · rw [Array.getElem?_eq_none h'] at hh; cases hh
    · split at h
      · cases h
      · rename_i hs
        cases hsp : a.spot with
        | none => rfl
        | some s => rw [hsp] at hs; simp at hs
  · cases h

/-- A list out of what is known of each index. -/
theorem list_of {α : Type} {Q : Nat → α → Prop} : ∀ (n : Nat), (∀ i, i < n → ∃ x, Q i x) → ∃ l : List α, l.length = n ∧ ∀ i x, l[i]? = some x → Q i x
  | 0, _ => ⟨[], rfl, fun i x h => by simp at h⟩
  | n + 1, h => by
    obtain ⟨l, hl, hq⟩ := list_of n fun i hi => h i (by omega)
    obtain ⟨x, hx⟩ := h n (by omega)
    refine ⟨l ++ [x], by simp [hl], fun i y hy => ?_⟩
    rcases Nat.lt_or_ge i n with hi | hi
    · rw [List.getElem?_append_left (by omega)] at hy
      exact hq i y hy
    · rw [List.getElem?_append_right (by omega)] at hy
      obtain rfl : i = n := by
        rcases Nat.lt_or_ge (i - l.length) 1 with h1 | h1
        · omega
        · rw [List.getElem?_eq_none (by simpa using h1)] at hy; cases hy
      rw [hl, Nat.sub_self] at hy
      simp at hy
      subst hy
      exact hx

end Go.Proofs.YticnppnejafhdaaGreatDoor
/- Arguments of the laws of the monitor, opened. -/
namespace Go.Proofs.YticnppnejafhdaaGreatDoor
open Go.RowKit
open Nd Rc Mo
open Av
set_option maxRecDepth 100000
set_option linter.unusedSimpArgs false
open Go.ChangeShapes Go.WideShapes Go.ChangeAt

def cellR (w : World) : Reader := fun p => w.cell? p
theorem RepL.get {R : Reader} {ps : List PV} {us : List Value} (h : RepL R ps us) : us.length = ps.length ∧ ∀ (j : Nat) (p : PV), ps[j]? = some p → ∃ u, us[j]? = some u ∧ RepP R p u := by
  induction h with
  | nil => exact ⟨rfl, fun j p h => by simp at h⟩
  | cons h t ih =>
    refine ⟨by simp [ih.1], fun j p hj => ?_⟩
    cases j with
    | zero =>
      simp only [List.getElem?_cons_zero, Option.some.injEq] at hj
      subst hj
      exact ⟨_, rfl, h⟩
    | succ j => exact ih.2 j p (by simpa using hj)
/-- A slice, read by f. -/
theorem rep_of_slice {α : Type} {f : α → List PV} {w : World} {e : Ty} {A : Option Addr} {n c : Nat} (hz : 0 < e.cells) (hnc : n ≤ c) (hnil : A = none → n = 0) (hr : ∀ es, es.length = e.cells → e.holds w es → ∃ x, RepL (cellR w) (f x) es)
    (h : ∀ a, A = some a → ∀ i, i < n → ∃ es, es.length = e.cells ∧ e.holds w es ∧ ∀ j u, es[j]? = some u → w.cell? (a.add (i * e.cells + j)) = some u) :
    ∃ l : List α, l.length = n ∧ RepP (cellR w) (.sl e.cells (l.map f)) (.slice A n c) := by
  cases A with
  | none =>
    obtain rfl := hnil rfl
    exact ⟨[], rfl, .sl e.cells [] none c (fun _ _ => undef) (fun k row hk => by simp at hk) (.inl rfl) (fun k row j p hk => by simp at hk) (Nat.zero_le _)⟩
  | some a =>
    obtain ⟨l, hl, hq⟩ := list_of (Q := fun i x => ∃ es, es.length = e.cells ∧ RepL (cellR w) (f x) es ∧ ∀ j u, es[j]? = some u → w.cell? (a.add (i * e.cells + j)) = some u) n fun i hi => by
      obtain ⟨es, h1, h2, h3⟩ := h a rfl i hi
      obtain ⟨x, hx⟩ := hr es h1 h2
      exact ⟨x, es, h1, hx, h3⟩
    refine ⟨l, hl, ?_⟩
    have hrow : ∀ (k : Nat) (row : List PV), (l.map f)[k]? = some row → row.length = e.cells ∧ ∀ (j : Nat) (p : PV), row[j]? = some p → ∃ u, w.cell? (a.add (k * e.cells + j)) = some u ∧ RepP (cellR w) p u := fun k row hk => by
      rw [List.getElem?_map] at hk
      cases hx : l[k]? with
      | none => rw [hx] at hk; cases hk
      | some x =>
        rw [hx] at hk
        obtain rfl := Option.some.inj hk
        obtain ⟨es, h1, h2, h3⟩ := hq k x hx
        obtain ⟨g1, g2⟩ := RepL.get h2
        refine ⟨by rw [← g1, h1], fun j p hj => ?_⟩
        obtain ⟨u, hu, hp⟩ := g2 j p hj
        exact ⟨u, h3 j u hu, hp⟩
    have hlen : n = (l.map f).length := by rw [List.length_map, hl]
    rw [hlen]
    refine .sl e.cells (l.map f) (some a) c (fun k j => (w.cell? (a.add (k * e.cells + j))).getD undef) (fun k row hk => (hrow k row hk).1) ?_ (fun k row j p hk hj => ?_) (by rw [← hlen]; exact hnc)
    · by_cases hn : l = []
      · exact .inl (by rw [hn]; rfl)
      · right
        have h0 : 0 < l.length := by
          rcases Nat.eq_zero_or_pos l.length with h0 | h0
          · exact absurd (List.eq_nil_of_length_eq_zero h0) hn
          · exact h0
        obtain ⟨x0, hx0⟩ := get_of_lt h0
        obtain ⟨q1, q2⟩ := hrow 0 (f x0) (by rw [List.getElem?_map, hx0]; rfl)
        obtain ⟨p0, hp0⟩ := get_of_lt (l := f x0) (k := 0) (by rw [q1]; exact hz)
        obtain ⟨u0, hu0, _⟩ := q2 0 p0 hp0
        have ha0 : a.add 0 = a := by simp [Addr.add]
        rw [show 0 * e.cells + 0 = 0 by omega, ha0] at hu0
        obtain ⟨_, hsp⟩ := cell_lt hu0
        obtain ⟨b, off, sp⟩ := a
        dsimp only at hsp
        subst hsp
        have hadd : ∀ i : Nat, (⟨b, off, none⟩ : Addr).add i = ⟨b, off + i, none⟩ := fun i => by
          unfold Addr.add
          split
          · rename_i h0; rw [h0]; rfl
          · rfl
        refine ⟨b, off, rfl, fun k row j p hk hj => ?_⟩
        obtain ⟨u, hu, _⟩ := (hrow k row hk).2 j p hj
        rw [hu]
        rw [hadd, ← Nat.add_assoc] at hu
        exact hu
    · obtain ⟨u, hu, hp⟩ := (hrow k row hk).2 j p hj
      rw [hu]; exact hp
def Ty.qi : Ty := .int .i64
def Ty.qatt : Ty := .struct (.cons .qi (.cons .qi (.cons (.struct (.cons .qi (.cons .qi (.cons .qi (.cons .qi (.cons .qi .nil)))))) (.cons .qi .nil))))
def Ty.qdlv : Ty := .struct (.cons .qi (.cons .qi (.cons .qi .nil)))
def Ty.qrec : Ty := .struct (.cons .qi (.cons (.struct (.cons (.slice .qatt) (.cons (.slice .qdlv) .nil))) .nil))
def Ty.qflow : Ty := .struct (.cons .qi (.cons .qi (.cons .qi (.cons .qi (.cons .qi (.cons .qi .nil))))))
def Ty.qnet : Ty := .struct (.cons .qi (.cons (.slice (.slice .qi)) (.cons .qi (.cons .qi (.cons (.slice .qdlv) (.cons (.slice .qi) .nil))))))
theorem Tryz.fitsQrec : Ty.qrec.fits Tryz.prog 35 = true := by kernel_rfl
theorem Tryz.fitsQnet : Ty.qnet.fits Tryz.prog 26 = true := by kernel_rfl
def Ty.qbr : Ty := .struct (.cons .qi (.cons .qi (.cons .qi (.cons .qi (.cons (.slice .qi) .nil)))))
def Ty.qex : Ty := .struct (.cons .qdlv (.cons (.slice .qbr) .nil))
theorem Tryz.fitsQflow1 : Ty.qflow.fits Tryz.prog 28 = true := by kernel_rfl
theorem Tryz.fitsQroutes : (Ty.slice (.slice .qi)).fits Tryz.prog 29 = true := by kernel_rfl
theorem Tryz.fitsQex : Ty.qex.fits Tryz.prog 42 = true := by kernel_rfl
theorem qatt_of {w : World} (es : List Value) (hl : es.length = Ty.qatt.cells) (h : Ty.qatt.holds w es) : ∃ a : Att, RepL (cellR w) a.pv es := by
  match es, hl with
  | [c0, c1, c2, c3, c4, c5, c6, c7], _ =>
    simp only [Ty.qatt, Ty.qi, Ty.holds, Ty.cells, List.take, List.drop] at h
    obtain ⟨⟨n0, h0, _⟩, ⟨n1, h1, _⟩, ⟨⟨n2, h2, _⟩, ⟨n3, h3, _⟩, ⟨n4, h4, _⟩, ⟨n5, h5, _⟩, ⟨n6, h6, _⟩, _⟩, ⟨n7, h7, _⟩, _⟩ := h
    simp only [List.cons.injEq, and_true] at h0 h1 h2 h3 h4 h5 h6 h7
    subst h0 h1 h2 h3 h4 h5 h6 h7
    exact ⟨⟨n0, n1, n2, n3, n4, n5, n6, n7⟩, .cons (.v _ rfl) (.cons (.v _ rfl) (.cons (.v _ rfl) (.cons (.v _ rfl) (.cons (.v _ rfl) (.cons (.v _ rfl) (.cons (.v _ rfl) (.cons (.v _ rfl) .nil)))))))⟩
theorem qdlv_of {w : World} (es : List Value) (hl : es.length = Ty.qdlv.cells) (h : Ty.qdlv.holds w es) : ∃ a : Dlv, RepL (cellR w) a.pv es := by
  match es, hl with
  | [c0, c1, c2], _ =>
    simp only [Ty.qdlv, Ty.qi, Ty.holds, Ty.cells, List.take, List.drop] at h
    obtain ⟨⟨n0, h0, _⟩, ⟨n1, h1, _⟩, ⟨n2, h2, _⟩, _⟩ := h
    simp only [List.cons.injEq, and_true] at h0 h1 h2
    subst h0 h1 h2
    exact ⟨⟨n0, n1, n2⟩, .cons (.v _ rfl) (.cons (.v _ rfl) (.cons (.v _ rfl) .nil))⟩
theorem qlk_of {w : World} (es : List Value) (hl : es.length = Ty.qdlv.cells) (h : Ty.qdlv.holds w es) : ∃ a : Lk, RepL (cellR w) a.pv es := by
  obtain ⟨⟨x, y, z⟩, h⟩ := qdlv_of es hl h
  exact ⟨⟨x, y, z⟩, h⟩
theorem qint_of {w : World} (es : List Value) (_hl : es.length = Ty.qi.cells) (h : Ty.qi.holds w es) : ∃ a : Int, RepL (cellR w) (irow_pv a) es := by
  obtain ⟨n, rfl, _⟩ := h
  exact ⟨n, .cons (.v _ rfl) .nil⟩
theorem qflow_of {w : World} (es : List Value) (hl : es.length = Ty.qflow.cells) (h : Ty.qflow.holds w es) : ∃ a : Fl, RepL (cellR w) a.pv es := by
  match es, hl with
  | [c0, c1, c2, c3, c4, c5], _ =>
    simp only [Ty.qflow, Ty.qi, Ty.holds, Ty.cells, List.take, List.drop] at h
    obtain ⟨⟨n0, h0, _⟩, ⟨n1, h1, _⟩, ⟨n2, h2, _⟩, ⟨n3, h3, _⟩, ⟨n4, h4, _⟩, ⟨n5, h5, _⟩, _⟩ := h
    simp only [List.cons.injEq, and_true] at h0 h1 h2 h3 h4 h5
    subst h0 h1 h2 h3 h4 h5
    exact ⟨⟨n0, n1, n2, n3, n4, n5⟩, .cons (.v _ rfl) (.cons (.v _ rfl) (.cons (.v _ rfl) (.cons (.v _ rfl) (.cons (.v _ rfl) (.cons (.v _ rfl) .nil)))))⟩
theorem qpow_of {w : World} (es : List Value) (_hl : es.length = (Ty.slice .qi).cells) (h : (Ty.slice .qi).holds w es) : ∃ a : List Int, RepL (cellR w) (prow_pv a) es := by
  obtain ⟨A, n, c, rfl, hc, hm, hn, he⟩ := h
  obtain ⟨l, _, hr⟩ := rep_of_slice (f := irow_pv) (e := Ty.qi) (by decide) hc hn qint_of he
  exact ⟨l, .cons hr .nil⟩
theorem qbr_of {w : World} (es : List Value) (hl : es.length = Ty.qbr.cells) (h : Ty.qbr.holds w es) : ∃ a : Br, RepL (cellR w) a.pv es := by
  match es, hl with
  | [c0, c1, c2, c3, c4], _ =>
    have hh' : Ty.holds w .qi [c0] ∧ Ty.holds w .qi [c1] ∧ Ty.holds w .qi [c2] ∧ Ty.holds w .qi [c3] ∧ Ty.holds w (.slice .qi) [c4] ∧ True := h
    obtain ⟨⟨n0, h0, _⟩, ⟨n1, h1, _⟩, ⟨n2, h2, _⟩, ⟨n3, h3, _⟩, ⟨A, n, c, h4, hc, hm, hn, he⟩, _⟩ := hh'
    simp only [List.cons.injEq, and_true] at h0 h1 h2 h3 h4
    subst h0 h1 h2 h3 h4
    obtain ⟨l, _, hr⟩ := rep_of_slice (f := irow_pv) (e := Ty.qi) (by decide) hc hn qint_of he
    exact ⟨⟨n0, n1, n2, n3, l⟩, .cons (.v _ rfl) (.cons (.v _ rfl) (.cons (.v _ rfl) (.cons (.v _ rfl) (.cons hr .nil))))⟩
section
variable {H : Type} {enc : TypeId × Value → H} {W : World} {base : Nat} {spare : Nat → Bool} {held : Bool} {r : Reach} {b0 : Nat} {v : Value} {d : DataW H} {p : List MemPlace}
theorem open_recP (hv : Value.okWide Tryz.prog W r b0 35 v) (h : DataW.Trod enc Tryz.prog W base spare held 35 v d p) : ∃ q : Rec, RepA (cellR W) (fun _ => 0) (.agg q.pv) v := by
  obtain ⟨cs, rfl, hsz⟩ := okWide_struct Tryz.underlying35 hv
  have hh := Ty.holds_trod (τ := Ty.qrec) Tryz.fitsQrec h
  obtain ⟨l⟩ := cs
  match l, hsz with
  | [c0, c1, c2], _ =>
    simp only [Value.cells, Ty.qrec, Ty.qi, Ty.holds, Ty.cells, List.take, List.drop] at hh
    obtain ⟨⟨n0, h0, w0⟩, ⟨⟨A, n, ca, h1, hc1, hm1, hn1, he1⟩, ⟨D, m, cd, h2, hc2, hm2, hn2, he2⟩, _⟩, _⟩ := hh
    simp only [List.cons.injEq, and_true] at h0 h1 h2
    subst h0 h1 h2
    obtain ⟨la, _, lA⟩ := rep_of_slice (f := Att.pv) (e := Ty.qatt) (by decide) hc1 hn1 qatt_of he1
    obtain ⟨ld, _, lD⟩ := rep_of_slice (f := Dlv.pv) (e := Ty.qdlv) (by decide) hc2 hn2 qdlv_of he2
    exact ⟨⟨n0, la, ld⟩, _, rfl, .cons (.v _ rfl) (.cons lA (.cons lD .nil))⟩
theorem open_netP (hv : Value.okWide Tryz.prog W r b0 26 v) (h : DataW.Trod enc Tryz.prog W base spare held 26 v d p) : ∃ q : Net, q.pow.length ≤ 9223372036854775807 ∧ RepA (cellR W) (fun _ => 0) (.agg q.pv) v := by
  obtain ⟨cs, rfl, hsz⟩ := okWide_struct Tryz.underlying26 hv
  have hh := Ty.holds_trod (τ := Ty.qnet) Tryz.fitsQnet h
  obtain ⟨l⟩ := cs
  match l, hsz with
  | [c0, c1, c2, c3, c4, c5], _ =>
    have hh' : Ty.holds W .qi [c0] ∧ Ty.holds W (.slice (.slice .qi)) [c1] ∧ Ty.holds W .qi [c2] ∧ Ty.holds W .qi [c3] ∧ Ty.holds W (.slice .qdlv) [c4] ∧ Ty.holds W (.slice .qi) [c5] ∧ True := hh
    obtain ⟨⟨n0, h0, _⟩, ⟨P, n, cp, h1, hc1, hm1, hn1, he1⟩, ⟨n2, h2, _⟩, ⟨n3, h3, _⟩, ⟨L, m, cl, h4, hc4, hm4, hn4, he4⟩, ⟨G, k, cg, h5, hc5, hm5, hn5, he5⟩, _⟩ := hh'
    simp only [List.cons.injEq, and_true] at h0 h1 h2 h3 h4 h5
    subst h0 h1 h2 h3 h4 h5
    obtain ⟨lp, ep, lP⟩ := rep_of_slice (f := prow_pv) (e := Ty.slice .qi) (by decide) hc1 hn1 qpow_of he1
    obtain ⟨ll, _, lL⟩ := rep_of_slice (f := Lk.pv) (e := Ty.qdlv) (by decide) hc4 hn4 qlk_of he4
    obtain ⟨lg, _, lG⟩ := rep_of_slice (f := irow_pv) (e := Ty.qi) (by decide) hc5 hn5 qint_of he5
    have hmx : maxLen = 9223372036854775807 := by decide
    exact ⟨⟨n0, n2, n3, lp, ll, lg⟩, (by show lp.length ≤ _; rw [ep]; omega), _, rfl, .cons (.v _ rfl) (.cons lP (.cons (.v _ rfl) (.cons (.v _ rfl) (.cons lL (.cons lG .nil)))))⟩
theorem open_flowP (hv : Value.okWide Tryz.prog W r b0 28 v) (h : DataW.Trod enc Tryz.prog W base spare held 28 v d p) : ∃ q : Fl, RepA (cellR W) (fun _ => 0) (.agg q.pv) v := by
  obtain ⟨cs, rfl, hsz⟩ := okWide_struct Tryz.underlying28 hv
  have hh := Ty.holds_trod (τ := Ty.qflow) Tryz.fitsQflow1 h
  obtain ⟨l⟩ := cs
  obtain ⟨q, hq⟩ := qflow_of l hsz hh
  exact ⟨q, l, rfl, hq⟩
theorem open_routesP (hv : Value.okWide Tryz.prog W r b0 29 v) (h : DataW.Trod enc Tryz.prog W base spare held 29 v d p) : ∃ ps : List (List Int), ps.length ≤ 9223372036854775807 ∧ RepA (cellR W) (fun _ => 0) (.sl 1 (ps.map prow_pv)) v := by
  obtain ⟨a, len, cap, rfl⟩ := okWide_slice Tryz.underlying29 hv
  have hh := Ty.holds_trod (τ := .slice (.slice .qi)) Tryz.fitsQroutes h
  obtain ⟨A, n, c, h1, hc, hm, hn, he⟩ := hh
  simp only [Value.cells, List.cons.injEq, and_true, Value.slice.injEq] at h1
  obtain ⟨rfl, rfl, rfl⟩ := h1
  obtain ⟨l, el, hr⟩ := rep_of_slice (f := prow_pv) (e := Ty.slice .qi) (by decide) hc hn qpow_of he
  have hmx : maxLen = 9223372036854775807 := by decide
  exact ⟨l, by rw [el]; omega, hr⟩
theorem open_exP (hv : Value.okWide Tryz.prog W r b0 42 v) (h : DataW.Trod enc Tryz.prog W base spare held 42 v d p) : ∃ q : Ex, q.ca.length ≤ 9223372036854775807 ∧ RepA (cellR W) (fun _ => 0) (.agg q.pv) v := by
  obtain ⟨cs, rfl, hsz⟩ := okWide_struct Tryz.underlying42 hv
  have hh := Ty.holds_trod (τ := Ty.qex) Tryz.fitsQex h
  obtain ⟨l⟩ := cs
  match l, hsz with
  | [c0, c1, c2, c3], _ =>
    have hh' : (Ty.holds W .qi [c0] ∧ Ty.holds W .qi [c1] ∧ Ty.holds W .qi [c2] ∧ True) ∧ Ty.holds W (.slice .qbr) [c3] ∧ True := hh
    obtain ⟨⟨⟨n0, h0, _⟩, ⟨n1, h1, _⟩, ⟨n2, h2, _⟩, _⟩, ⟨A, n, c, h3, hc, hm, hn, he⟩, _⟩ := hh'
    simp only [List.cons.injEq, and_true] at h0 h1 h2 h3
    subst h0 h1 h2 h3
    obtain ⟨lb, eb, lB⟩ := rep_of_slice (f := Br.pv) (e := Ty.qbr) (by decide) hc hn qbr_of he
    have hmx : maxLen = 9223372036854775807 := by decide
    exact ⟨⟨⟨n0, n1, n2⟩, lb⟩, (by show lb.length ≤ _; rw [eb]; omega), _, rfl, .cons (.v _ rfl) (.cons (.v _ rfl) (.cons (.v _ rfl) (.cons lB .nil)))⟩
end
theorem Tryz.laidOut : laidOutB Tryz.prog = true := by kernel_rfl
theorem Tryz.own : ownKnob Tryz.prog.godebug = none := by kernel_rfl
def laid3 : List (String × DataW Unit) := [("math/bits.deBruijn32tab", Rows.laid_math_bits_deBruijn32tab), ("math/bits.deBruijn64tab", Rows.laid_math_bits_deBruijn64tab), ("internal/strconv.uint64pow10", Rows.laid_internal_strconv_uint64pow10)]
theorem door_met (os : Os) (args : Array Value) : laidMetH Tryz.prog laid3 ((World.doorLaid Tryz.prog 400 os).forCall (fun _ _ => 0) ⟨#[], args, []⟩).memory :=
  laidMetH_of_parts3 (fuel := 8) (laidMet_of_run' 8 (by kernel_rfl) (by kernel_rfl)) (by kernel_rfl) (by kernel_rfl)

section
variable {H : Type} {enc : TypeId × Value → H} {P : Program}
/-- What the row asks behind a call that only made new memory. (After the guide's small lemmas.) -/
theorem post_of_below {f : Func} {s : ChangeSpec} {apart fresh handsOn again : Bool} {W W' : World} {args : Array Value} {v : Value} {ds gs : List (DataW H)} {before pa pv : List MemPlace}
    (hW : DataW.Whole enc P f.params.toList s.vars apart W args.toList ds gs before)
    (hres : ∀ (b : Nat) (sp : Nat → Bool) (hd : Bool), DataW.TrodAll enc P W' b sp hd f.resultTypes.toList (v.resultList f.resultTypes.size) (s.fn H (ds ++ gs)).results [])
    (hargs : ∀ sp : Nat → Bool, (∀ p ∈ before, sp p.block = true) → DataW.TrodAll enc P W' 0 sp true f.params.toList args.toList (s.fn H (ds ++ gs)).args pa)
    (hvars : ∀ sp : Nat → Bool, (∀ p ∈ before, sp p.block = true) → DataW.TrodVars enc P W' sp s.vars (s.fn H (ds ++ gs)).vars pv)
    (hps : before = pa ++ pv) (hb : Below W.heap.size W W')
    (hok : ∀ (j : Nat) (t : TypeId) (r : Value), f.resultTypes[j]? = some t → (v.resultList f.resultTypes.size)[j]? = some r → Value.okWide P W' .any 0 t r) :
    s.post enc P f apart fresh handsOn again W args v W' := by
  have hlt : ∀ p ∈ before, p.block < W.heap.size := fun p hp => hW.lt p hp
  have hold : ∀ p ∈ before, (fun b => decide (b < W.heap.size)) p.block = true := fun p hp => by simpa using hlt p hp
  refine ⟨ds, gs, before, [], pa, pv, hW, hres _ _ _, hargs _ hold, hvars _ hold, World.keptBut_mono (fun p hp => ⟨hp, ?_⟩) (hb.frame (· ∈ before)), fun _ => ?_⟩
  · rw [hps, List.mem_append] at hp
    exact Or.inr hp
  · obtain ⟨_, _, _, _, _, hz, hn⟩ := hW
    refine ⟨hok, _, _, ([] ++ pa) ++ pv, ⟨[] ++ pa, pv, trodAll_append (hargs _ (fun _ _ => rfl)) (hres _ _ _), hvars _ (fun _ _ => rfl), rfl, ?_, ?_⟩, ?_⟩
    · intro b off hp
      have hin : MemPlace.cell b off ∈ before := by rw [hps]; simpa using hp
      rw [hb.frozen (hlt _ hin)]
      exact hz b off hin
    · intro ha
      have := hn ha
      rw [hps] at this
      simpa using this
    · intro p hp _
      rw [hps]
      simpa using hp
end
end Go.Proofs.YticnppnejafhdaaGreatDoor
/- What the listed tables are. -/
namespace Go.Proofs.YticnppnejafhdaaGreatDoor
open Go.RowKit
open Nd Rc Mo
open Av
set_option maxRecDepth 100000
set_option linter.unusedSimpArgs false

/-- What a row's list of tables says of the powers of ten. -/
theorem tab_of_laid {W : World} (h : laidMetH Tryz.prog laid3 W) : TabC W := by
  have h0 : laidMet Tryz.prog laid3 W := h
  have h1 := laidMet.tail (laidMet.tail h0)
  have e : (Rows.laid_internal_strconv_uint64pow10 : DataW Unit) = Lib.tabData .u64 Lib.pow10Tab := by kernel_rfl
  rw [e] at h1
  exact Lib.tabIs_of_head (g := 1) (t := 215) (e := 184) (n := 20) (by kernel_rfl) (by kernel_rfl) Tryz.underlying215 Tryz.underlying184 (by kernel_rfl) (by kernel_rfl) h1
theorem calls_trueC {P : Program} {C : World → Prop} {f : FuncId} {args : List AV} (h : FnOKC P C f args ⟨bv true, none⟩) (W : World) (hC : C W) (us : List Value) (hus : RepAL (cellR W) args us) : Calls P f us.toArray W fun e W' => e = .returned (.bool true) ∧ Below W.heap.size W W' :=
  (h.2 W (cellR W) hC (fun _ _ h => h) us hus).mono fun e W' hq => by
    obtain ⟨u, rfl, hb, _, hr⟩ := hq
    exact ⟨by rw [show u = .bool true from hr], hb⟩
end Go.Proofs.YticnppnejafhdaaGreatDoor
