/- Walk: Check of the reference. -/
import Derived.Test.YtllakkepphpfmaaRchk
import Derived.Test.YtllakkepphpfmaaPure2
namespace Go.Proofs.Ytllakkepphpfmaa
open Go.RowKit
open Rc

theorem rcheck_short {r : Rec} (h : ¬ (0 ≤ r.slots ∧ r.slots ≤ 4096 ∧ r.al.length ≤ 65536 ∧ r.dl.length ≤ 65536)) : rcheckE r = 1 := by
  unfold rcheckE
  rw [if_neg]
  intro hg
  simp [goodR, inB] at hg
  exact h ⟨hg.1.1, hg.1.2, hg.2.1, hg.2.2.1⟩
theorem rcheck_long {r : Rec} (h0 : 0 ≤ r.slots) (h1 : r.slots ≤ 4096) (h2 : r.al.length ≤ 65536) (h3 : r.dl.length ≤ 65536) : rcheckE r = if attsRGo r.slots [] r.al && dlvsRGo r.slots none r.dl then 0 else 1 := by
  unfold rcheckE
  congr 1
  simp [goodR, inB, h0, h1, h2, h3]

theorem revTake_succ {α : Type} {l : List α} {j : Nat} {p : α} (h : l[j]? = some p) : (l.take (j + 1)).reverse = p :: (l.take j).reverse := by
  have hj : j < l.length := (List.getElem?_eq_some_iff.1 h).1
  rw [List.take_succ_eq_append_getElem hj, (List.getElem?_eq_some_iff.1 h).2]
  simp

set_option maxRecDepth 100000 in
set_option maxHeartbeats 4000000 in
theorem rcheck_any (r : Rec) (A D : Option Addr) (ca cd : Nat) (w : World) (hA : LiesA w w.heap.size A r.al) (hD : LiesD w w.heap.size D r.dl) (hla : r.al.length ≤ 9223372036854775807) (hld : r.dl.length ≤ 9223372036854775807) :
    Calls Try.prog 19 #[.agg #[.int .i64 r.slots, .slice A r.al.length ca, .slice D r.dl.length cd]] w fun e w' => e = .returned (.int .i64 (rcheckE r)) ∧ Below w.heap.size w w' := by
  obtain ⟨slots, al, dl⟩ := r
  dsimp only at *
  have hshort := @rcheck_short ⟨slots, al, dl⟩
  have hlong := @rcheck_long ⟨slots, al, dl⟩
  dsimp only at hshort hlong
  obtain ⟨na, hna⟩ : ∃ n, n = al.length := ⟨_, rfl⟩
  obtain ⟨nd, hnd⟩ : ∃ n, n = dl.length := ⟨_, rfl⟩
  rw [← hna, ← hnd] at hshort hlong ⊢
  rw [← hna] at hla
  rw [← hnd] at hld
  have HA := Lib.hid hna
  have HD := Lib.hid hnd
  clear hna hnd
  by_cases hbad : ¬ (0 ≤ slots ∧ slots ≤ 4096 ∧ na ≤ 65536 ∧ nd ≤ 65536)
  · have hfin := Lib.hid (hshort hbad)
    clear hshort hlong
    have hin : inB slots 0 4096 = decide (0 ≤ slots ∧ slots ≤ 4096) := by unfold inB; rw [Bool.decide_and]
    have con := fun W => in_any slots 0 4096 W
    by_cases hs : 0 ≤ slots ∧ slots ≤ 4096
    · have hin2 : inB slots 0 4096 = true := by rw [hin]; simp [hs]
      rw [hin2] at con
      have Con := Lib.hid con
      clear hin hin2 con
      by_cases h2 : 65536 < na
      · go_enter Try.func19, Try.ntmps19
        go_wp2_with (go_at_call 48; refine (Con.out _).mono ?_; rintro e w' ⟨rfl, rfl⟩)
        go_ret
        exact ⟨ret_int (by rw [hfin.out]), (Below.refl _ _).alloc (Nat.le_refl _) _⟩
      · have h3 : 65536 < nd := by omega
        go_enter Try.func19, Try.ntmps19
        go_wp2_with (go_at_call 48; refine (Con.out _).mono ?_; rintro e w' ⟨rfl, rfl⟩)
        go_ret
        exact ⟨ret_int (by rw [hfin.out]), (Below.refl _ _).alloc (Nat.le_refl _) _⟩
    · have hin2 : inB slots 0 4096 = false := by rw [hin]; simpa using hs
      rw [hin2] at con
      have Con := Lib.hid con
      clear hin hin2 con
      go_enter Try.func19, Try.ntmps19
      go_wp2_with (go_at_call 48; refine (Con.out _).mono ?_; rintro e w' ⟨rfl, rfl⟩)
      go_ret
      exact ⟨ret_int (by rw [hfin.out]), (Below.refl _ _).alloc (Nat.le_refl _) _⟩
  obtain ⟨h0, h1, h2, h3⟩ : 0 ≤ slots ∧ slots ≤ 4096 ∧ na ≤ 65536 ∧ nd ≤ 65536 := by omega
  have hfin := Lib.hid (hlong h0 h1 h2 h3)
  clear hshort hlong hbad
  have con : ∀ W, Calls Try.prog 48 #[.int .i64 slots, .int .i64 0, .int .i64 4096] W fun e w' => e = .returned (.bool true) ∧ W = w' := fun W => by
    have := in_any slots 0 4096 W
    rwa [show inB slots 0 4096 = true by simp [inB, h0, h1]] at this
  have Con := Lib.hid con
  clear con
  go_enter Try.func19, Try.ntmps19
  go_wp2_with (go_at_call 48; refine (Con.out _).mono ?_; rintro e w' ⟨rfl, rfl⟩)
  generalize hw1 : w.alloc _ = w1
  have row1 : Row w1 w.heap.size [.int .i64 slots, .slice A na ca, .slice D nd cd] := by rw [← hw1]; exact Row.new _ _ _
  have hbw : Below w.heap.size w w1 := by rw [← hw1]; exact (Below.refl _ _).alloc (Nat.le_refl _) _
  have hz : w.heap.size < w1.heap.size := by rw [← hw1]; simp
  have R1 := Lib.hid row1
  clear hw1 row1
  go_loopw [2, 3] (fun s2 i wr => ∃ (k : Nat), k ≤ na ∧ i = .int .i64 k ∧ s2 = .int .i64 0 ∧ Below w1.heap.size w1 wr ∧
      Hid (attsRGo slots [] al = attsRGo slots (al.take k).reverse (al.drop k))) (fun _ i _ => na - (intOf i).toNat)
  case atStart => exact ⟨0, Nat.zero_le _, rfl, rfl, Below.refl _ _, Lib.hid rfl⟩
  case round =>
    obtain ⟨k, hk, rfl, rfl, hb, hst⟩ := hrel
    have row1 := R1.out.below hb (by omega)
    have hb0 : Below w.heap.size w wr := hbw.trans (hb.mono hbw.size)
    unfold Row at row1
    by_cases hlt : k < na
    · obtain ⟨a, ha⟩ := get_of_lt (l := al) (k := k) (by rw [← HA.out]; exact hlt)
      obtain ⟨b, off, rfl, hbB, hcs⟩ := (hA.below hb0).at_ ha
      obtain ⟨c0, c1, c2, c3, c4, c5, c6, c7⟩ := hcs k a ha
      have hd := Lib.hid (drop_of_get ha)
      have Hcs := Lib.hid hcs
      have Ha := Lib.hid ha
      clear hcs ha
      have hst' := hst.out
      rw [hd.out] at hst'
      simp only [attsRGo] at hst'
      have Hst := Lib.hid hst'
      clear hst'
      go_upto_region 7 with fail
      generalize hW1 : wr.alloc _ = W1
      have hb1 : Below w1.heap.size w1 W1 := by rw [← hW1]; exact hb.alloc hb.size _
      have hz1 : wr.heap.size < W1.heap.size := by rw [← hW1]; simp
      have row4 : Row W1 wr.heap.size [.int .i64 a.s, .int .i64 a.f, .int .i64 a.cs, .int .i64 a.co, .int .i64 a.cf, .int .i64 a.ct, .int .i64 a.cl, .int .i64 a.o] := by rw [← hW1]; exact Row.new wr _ _
      have hkeep : ∀ p : Addr, p.block < w1.heap.size → W1.cell? p = wr.cell? p := fun p hp => by rw [← hW1]; exact World.cell?_alloc_lt wr _ p (Nat.lt_of_lt_of_le hp hb.size)
      have HK := Lib.hid hkeep
      have R4 := Lib.hid row4
      have hzr := hb.size
      clear hkeep c0 c1 c2 c3 c4 c5 c6 c7 hW1 row1
      have hbb : b < W1.heap.size := Nat.lt_of_lt_of_le (Nat.lt_of_lt_of_le hbB hbw.size) hb1.size
      go_cut [60] (fun s60 W => s60 = .bool (!attR slots a || notLess (al.take k).reverse a) ∧ Below W1.heap.size W1 W)
      case first =>
        have x1 := (R1.out.below hb1 hz).ext (B := W1.heap.size) (by omega)
        have x4 := R4.out.ext (B := W1.heap.size) hz1
        have con := fun W => rattempt_any slots (.slice (some ⟨b, off, none⟩) na ca) (.slice D nd cd) a W h0 h1
        cases hat : attR slots a with
        | false =>
          rw [hat] at con
          have Con2 := Lib.hid con
          clear con
          refine wp_region_ext W1.heap.size (by kernel_rfl) (by kernel_rfl) ?_
          repeat (go_big_quiet_step ((go_at_call 49; exact Calls.ext_of (Con2.out _) (Nat.le_refl _))))
          refine wpQuiet_nil ?_
          rintro _ ⟨x, rfl⟩
          go_wp2_with fail
          go_meet
          exact ⟨by rw [hat]; rfl, x.below⟩
        | true =>
          rw [hat] at con
          have Con2 := Lib.hid con
          clear con
          by_cases hk0 : k = 0
          · subst hk0
            have hd0 : decide ((0 : Int) < ((0 : Nat) : Int)) = false := rfl
            refine wp_region_ext W1.heap.size (by kernel_rfl) (by kernel_rfl) ?_
            repeat (go_big_quiet_step ((go_at_call 49; exact Calls.ext_of (Con2.out _) (Nat.le_refl _))))
            refine wpQuiet_nil ?_
            rintro _ ⟨x, rfl⟩
            go_wp2_with fail
            go_meet
            exact ⟨by rw [hat]; rfl, x.below⟩
          · obtain ⟨j, rfl⟩ : ∃ j, k = j + 1 := ⟨k - 1, by omega⟩
            obtain ⟨p, hp⟩ := get_of_lt (l := al) (k := j) (by rw [← HA.out]; omega)
            have hx : ∀ (x : ExtW W1.heap.size W1) (j : Nat), x.val.cell? ⟨b, j, none⟩ = wr.cell? ⟨b, j, none⟩ := fun x j => (x.cell _ hbb).trans (HK.out _ (Nat.lt_of_lt_of_le hbB hbw.size))
            obtain ⟨p0, p1, p2, p3, p4, p5, p6, p7⟩ := Hcs.out j p hp
            have hki : decide ((0 : Int) < ((j + 1 : Nat) : Int)) = true := by simp
            have hw2 : IntKind.i64.wrap (((j + 1 : Nat) : Int) - 1) = (j : Int) := by rw [IntWalk.i64_in _ (by omega)]; omega
            have hjn : (j : Int) < (na : Int) := by omega
            have con3 := fun W => less_any p a W
            have Con3 := Lib.hid con3
            have HP := Lib.hid hp
            clear con3 hp
            refine wp_region_ext W1.heap.size (by kernel_rfl) (by kernel_rfl) ?_
            repeat (go_big_quiet_step ((first | (go_at_call 49; exact Calls.ext_of (Con2.out _) (Nat.le_refl _)) | (go_at_call 50; exact Calls.ext_of (Con3.out _) (Nat.le_refl _)))))
            refine wpQuiet_nil ?_
            rintro _ ⟨x, rfl⟩
            go_wp2_with fail
            go_meet
            exact ⟨by rw [revTake_succ HP.out, hat]; simp [notLess], x.below⟩
      case rest =>
        obtain ⟨rfl, hb2⟩ := hcut
        obtain ⟨wo, hwo⟩ : ∃ wo : World, wo = wc := ⟨_, rfl⟩
        subst hwo
        have hb3 : Below w1.heap.size w1 wo := hb1.trans (hb2.mono hb1.size)
        have hbo : Below w.heap.size w wo := hbw.trans (hb3.mono hbw.size)
        have row1 := R1.out.below hb3 hz
        have row4 := R4.out.below hb2 hz1
        have HK2 : Hid (∀ j : Nat, wo.cell? ⟨b, j, none⟩ = wr.cell? ⟨b, j, none⟩) := Lib.hid fun j => (hb2.cell (p := ⟨b, j, none⟩) hbb).trans (HK.out _ (Nat.lt_of_lt_of_le hbB hbw.size))
        unfold Row at row1 row4
        generalize hbad : (!attR slots a || notLess (al.take k).reverse a) = bad
        have hst' := Hst.out
        rw [hbad] at hst'
        cases bad with
        | true =>
          have hf := Lib.hid hst'
          clear hst' hbad
          go_wp2
          go_ret
          exact ⟨ret_int (by rw [hfin.out, hf.out]; rfl), hbo⟩
        | false =>
          simp only [Bool.false_eq_true, if_false] at hst'
          have hf := Lib.hid hst'
          clear hst' hbad
          go_wp2_with fail
          go_loopw [2, 5] (fun s2 s5 wr => ∃ (j m : Nat), j ≤ k ∧ s5 = .int .i64 ((j : Int) - 1) ∧ s2 = .int .i64 0 ∧ wr = wo.drewN m ∧ Hid (sameFrom (al.take k).reverse a = sameFrom (al.take j).reverse a)) (fun _ s5 _ => (intOf s5 + 1).toNat)
          case atStart => exact ⟨k, 0, Nat.le_refl _, rfl, rfl, rfl, Lib.hid rfl⟩
          case round =>
            obtain ⟨j, m, hj, rfl, rfl, rfl, hsf⟩ := hrel
            rcases Nat.eq_zero_or_pos j with hj0 | hj0
            · subst hj0
              have hd0 : decide ((0 : Int) ≤ ((0 : Nat) : Int) - 1) = false := rfl
              have hsf' : sameFrom (al.take k).reverse a = false := by rw [hsf.out]; rfl
              have hf' := hf.out
              rw [hsf'] at hf'
              have hf2 := Lib.hid hf'
              clear hf' hsf'
              go_wp2_with fail
              go_quiet (fail)
              go_wp2_with fail
              go_roundw
              case rel => exact ⟨k + 1, by omega, by go_num, rfl, by first | exact below_drewN hb3 _ | exact below_drewN (below_drewN hb3 _) _, Lib.hid (by rw [hf2.out, revTake_succ Ha.out]; rfl)⟩
              case measure => simp [intOf]; omega
            · obtain ⟨i, rfl⟩ : ∃ i, j = i + 1 := ⟨j - 1, by omega⟩
              obtain ⟨p, hp⟩ := get_of_lt (l := al) (k := i) (by rw [← HA.out]; omega)
              obtain ⟨p0, _, _, _, p4, _⟩ := Hcs.out i p hp
              have q0 := (HK2.out (off + i * 8)).trans p0
              have q4 := (HK2.out (off + i * 8 + 4)).trans p4
              have hsf' := hsf.out
              rw [revTake_succ hp] at hsf'
              simp only [sameFrom] at hsf'
              have e1 : (((i + 1 : Nat) : Int) - 1) = (i : Int) := by omega
              rw [e1]
              have hd1 : decide ((0 : Int) ≤ (i : Int)) = true := by simp
              have hin : (i : Int) < (na : Int) := by omega
              clear e1 p0 p4 hp
              by_cases hs : p.s = a.s
              · rw [if_pos hs] at hsf'
                have hse : (p.s == a.s) = true := by simpa using hs
                by_cases hc : p.cf = a.cf
                · rw [if_pos hc] at hsf'
                  have hce : (p.cf == a.cf) = true := by simpa using hc
                  have hf' := hf.out
                  rw [hsf'] at hf'
                  have hf2 := Lib.hid hf'
                  clear hf' hsf' hs hc
                  go_wp2_with fail
                  go_quiet (fail)
                  go_wp2_with fail
                  go_quiet (fail)
                  go_wp2_with fail
                  go_ret
                  exact ⟨ret_int (by rw [hfin.out, hf2.out]; rfl), by repeat (first | exact hbo | refine below_drewN ?_ _)⟩
                · rw [if_neg hc] at hsf'
                  have hce : (p.cf == a.cf) = false := by simpa using hc
                  have hsf2 := Lib.hid hsf'
                  clear hsf' hs hc
                  go_wp2_with fail
                  go_quiet (fail)
                  go_wp2_with fail
                  go_quiet (fail)
                  go_wp2_with fail
                  go_roundw
                  case rel => exact ⟨i, _, by omega, by go_num, rfl, by first | rfl | (simp; done), hsf2⟩
                  case measure => simp [intOf]
              · rw [if_neg hs] at hsf'
                have hse : (p.s == a.s) = false := by simpa using hs
                have hf' := hf.out
                rw [hsf'] at hf'
                have hf2 := Lib.hid hf'
                clear hf' hsf' hs
                go_wp2_with fail
                go_quiet (fail)
                go_wp2_with fail
                go_roundw
                case rel => exact ⟨k + 1, by omega, by go_num, rfl, by first | exact below_drewN hb3 _ | exact below_drewN (below_drewN hb3 _) _, Lib.hid (by rw [hf2.out, revTake_succ Ha.out]; rfl)⟩
                case measure => simp [intOf]; omega
    · have hal : attsRGo slots [] al = true := by rw [hst.out, List.drop_of_length_le (by rw [← HA.out]; omega)]; simp [attsRGo]
      have hfin' := hfin.out
      rw [hal] at hfin'
      have hfn := Lib.hid hfin'
      clear hfin' hal hst
      obtain ⟨w2, hw2⟩ : ∃ w2 : World, w2 = wr := ⟨_, rfl⟩
      subst hw2
      have R1' := Lib.hid (R1.out.below hb hz)
      have hz2 : w.heap.size < w2.heap.size := Nat.lt_of_lt_of_le hz hb.size
      go_wp2_with fail
      go_loopw [2, 6] (fun s2 i wr => ∃ (k : Nat), k ≤ nd ∧ i = .int .i64 k ∧ s2 = .int .i64 0 ∧ Below w2.heap.size w2 wr ∧
        Hid (dlvsRGo slots none dl = dlvsRGo slots (if k = 0 then none else dl[k - 1]?) (dl.drop k))) (fun _ i _ => nd - (intOf i).toNat)
      case atStart => exact ⟨0, Nat.zero_le _, rfl, rfl, Below.refl _ _, Lib.hid rfl⟩
      case round =>
        clear row1
        obtain ⟨k, hk, rfl, rfl, hbr, hst⟩ := hrel
        have row1 := R1'.out.below hbr hz2
        have hbd : Below w.heap.size w wr := hb0.trans (hbr.mono hb0.size)
        unfold Row at row1
        by_cases hltd : k < nd
        · obtain ⟨d, hd0⟩ := get_of_lt (l := dl) (k := k) (by rw [← HD.out]; exact hltd)
          obtain ⟨b, off, rfl, hbB, hcs⟩ := (hD.below hbd).at_ hd0
          obtain ⟨c0, c1, c2⟩ := hcs k d hd0
          have hd := Lib.hid (drop_of_get hd0)
          have Hcs := Lib.hid hcs
          have Hd0 := Lib.hid hd0
          clear hcs hd0
          have hst' := hst.out
          rw [hd.out] at hst'
          simp only [dlvsRGo] at hst'
          have Hst := Lib.hid hst'
          clear hst'
          go_upto_region 18 with fail
          generalize hW1 : wr.alloc _ = W1
          have hb1 : Below w2.heap.size w2 W1 := by rw [← hW1]; exact hbr.alloc hbr.size _
          have hz1 : wr.heap.size < W1.heap.size := by rw [← hW1]; simp
          have row7 : Row W1 wr.heap.size [.int .i64 d.fl, .int .i64 d.fr, .int .i64 d.sl] := by rw [← hW1]; exact Row.new wr _ _
          have hkeep : ∀ p : Addr, p.block < w2.heap.size → W1.cell? p = wr.cell? p := fun p hp => by rw [← hW1]; exact World.cell?_alloc_lt wr _ p (Nat.lt_of_lt_of_le hp hbr.size)
          have HK := Lib.hid hkeep
          have hbW : Below w.heap.size w W1 := hb0.trans (hb1.mono hb0.size)
          clear hkeep c0 c1 c2 hW1 row1
          have row1 := R1'.out.below hb1 hz2
          unfold Row at row1 row7
          go_cut [123] (fun s123 W => s123 = .bool (!dlvR slots d) ∧ W = W1)
          case first =>
            go_wp2_with (go_at_call 48; refine (in_any _ _ _ _).mono ?_; rintro e w' ⟨rfl, rfl⟩)
            all_goals
              go_meet
              exact ⟨by simp [dlvR, *], rfl⟩
          case rest =>
            obtain ⟨rfl, hwc⟩ := hcut
            subst wc
            have hst' := Hst.out
            cases hdl : dlvR slots d with
            | false =>
              rw [hdl] at hst'
              have hf := Lib.hid hst'
              clear hst'
              go_wp2
              go_ret
              exact ⟨ret_int (by rw [hfn.out, hf.out]; rfl), hbW⟩
            | true =>
              rw [hdl] at hst'
              simp only [Bool.true_eq_false, if_false] at hst'
              have hf := Lib.hid hst'
              clear hst'
              by_cases hk0 : k = 0
              · subst hk0
                go_wp2
                go_roundw
                case rel => exact ⟨1, by omega, rfl, rfl, hb1, Lib.hid (by rw [hf.out]; simp [Hd0.out, backO])⟩
                case measure => simp [intOf]; omega
              · obtain ⟨j, rfl⟩ : ∃ j, k = j + 1 := ⟨k - 1, by omega⟩
                obtain ⟨p, hp⟩ := get_of_lt (l := dl) (k := j) (by rw [← HD.out]; omega)
                obtain ⟨p0, p1, p2⟩ := Hcs.out j p hp
                have hlb : b < w2.heap.size := Nat.lt_of_lt_of_le hbB hb0.size
                have q0 := (HK.out ⟨b, off + j * 3, none⟩ hlb).trans p0
                have q1 := (HK.out ⟨b, off + j * 3 + 1, none⟩ hlb).trans p1
                have q2 := (HK.out ⟨b, off + j * 3 + 2, none⟩ hlb).trans p2
                have hf' := hf.out
                rw [if_neg (show ¬ (j + 1 = 0) by omega), show j + 1 - 1 = j from rfl, hp] at hf'
                have hk1 : (0 : Int) < ((j + 1 : Nat) : Int) := by omega
                have hf1 := Lib.hid hf'
                clear p0 p1 p2 hp hf'
                go_upto_region 22 with fail
                generalize hW2 : W1.alloc _ = W2
                have row8 : Row W2 W1.heap.size [.int .i64 p.fl, .int .i64 p.fr, .int .i64 p.sl] := by rw [← hW2]; exact Row.new W1 _ _
                have row7' : Row W2 wr.heap.size [.int .i64 d.fl, .int .i64 d.fr, .int .i64 d.sl] := by rw [← hW2]; exact Row.alloc row7 hz1 _
                have hbW2 : Below w2.heap.size w2 W2 := by rw [← hW2]; exact hb1.alloc hb1.size _
                clear hW2 q0 q1 q2 row7 row1
                unfold Row at row8 row7'
                go_cut [151] (fun s151 W => s151 = .bool (backD p d) ∧ W = W2)
                case first =>
                  go_wp2
                  all_goals
                    go_meet
                    exact ⟨by simp [backD, *], rfl⟩
                case rest =>
                  obtain ⟨rfl, hwc⟩ := hcut
                  subst wc
                  have hf' := hf1.out
                  cases hbk : backD p d with
                  | true =>
                    rw [show backO (some p) d = true from hbk] at hf'
                    have hf2 := Lib.hid hf'
                    clear hf'
                    go_wp2
                    go_ret
                    exact ⟨ret_int (by rw [hfn.out, hf2.out]; rfl), hb0.trans (hbW2.mono hb0.size)⟩
                  | false =>
                    rw [show backO (some p) d = false from hbk] at hf'
                    simp only [Bool.false_eq_true, if_false] at hf'
                    have hf2 := Lib.hid hf'
                    clear hf'
                    go_wp2
                    go_roundw
                    case rel => exact ⟨j + 1 + 1, by omega, by go_num, rfl, hbW2, Lib.hid (by rw [hf2.out, if_neg (by omega), show j + 1 + 1 - 1 = j + 1 from rfl, Hd0.out])⟩
                    case measure => simp [intOf]; omega
        · go_wp2
          go_ret
          exact ⟨ret_int (by rw [hfn.out, hst.out, List.drop_of_length_le (by rw [← HD.out]; omega)]; simp [dlvsRGo]), hbd⟩

end Go.Proofs.Ytllakkepphpfmaa
