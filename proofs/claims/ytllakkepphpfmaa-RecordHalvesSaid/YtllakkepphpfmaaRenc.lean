/- Walk: Encode of the reference. -/
import Derived.Test.YtllakkepphpfmaaVary
import Derived.Test.YtllakkepphpfmaaRcheck
namespace Go.Proofs.Ytllakkepphpfmaa
open Go.RowKit
open Rc

theorem varying_int (z : Int) (w : World) (h0 : 0 ≤ z) (h1 : z < 9223372036854775808) : Calls Try.prog 43 #[.int .i64 z] w fun e w' => e = .returned (.string ⟨(varN z.toNat).toArray⟩) ∧ Below w.heap.size w w' := by
  have := varying_nat z.toNat z.toNat w (Nat.le_refl _) (by omega)
  rwa [Int.toNat_of_nonneg h0] at this

theorem str_append (a b : List UInt8) : (⟨a.toArray⟩ : ByteArray) ++ ⟨b.toArray⟩ = ⟨(a ++ b).toArray⟩ := by
  apply ByteArray.ext
  simp

set_option maxRecDepth 100000 in
set_option maxHeartbeats 4000000 in
theorem rencode_bad (r : Rec) (A D : Option Addr) (ca cd : Nat) (w : World) (hA : LiesA w w.heap.size A r.al) (hD : LiesD w w.heap.size D r.dl) (hla : r.al.length ≤ 9223372036854775807) (hld : r.dl.length ≤ 9223372036854775807) (hg : good r = false) :
    Calls Try.prog 17 #[.agg #[.int .i64 r.slots, .slice A r.al.length ca, .slice D r.dl.length cd]] w fun e w' => e = .returned (.tuple #[.string ⟨#[]⟩, .int .i64 1]) ∧ Below w.heap.size w w' := by
  have con : ∀ W, Below w.heap.size w W → Calls Try.prog 19 #[.agg #[.int .i64 r.slots, .slice A r.al.length ca, .slice D r.dl.length cd]] W fun e w' => e = .returned (.int .i64 1) ∧ Below W.heap.size W w' := fun W hW => by
    have := rcheck_any r A D ca cd W ((hA.below hW).more hW.size) ((hD.below hW).more hW.size) hla hld
    rwa [← check_agree, show checkE r = 1 by simp [checkE, hg]] at this
  have Con := Lib.hid con
  clear con hg
  go_enter Try.func17, Try.ntmps17
  go_wp2_with fail
  refine (Con.out _ ((Below.refl _ _).alloc (Nat.le_refl _) _)).mono ?_
  rintro e w1 ⟨rfl, hb1⟩
  go_wp2_with fail
  go_ret2
  exact ⟨rfl, ((Below.refl _ _).alloc (Nat.le_refl _) _).trans (hb1.mono (by simp))⟩

set_option maxRecDepth 100000 in
set_option maxHeartbeats 8000000 in
theorem rencode_good (r : Rec) (A D : Option Addr) (ca cd : Nat) (w : World) (hA : LiesA w w.heap.size A r.al) (hD : LiesD w w.heap.size D r.dl) (hg : good r = true) :
    Calls Try.prog 17 #[.agg #[.int .i64 r.slots, .slice A r.al.length ca, .slice D r.dl.length cd]] w fun e w' => e = .returned (.tuple #[.string ⟨(encR r).toArray⟩, .int .i64 0]) ∧ Below w.heap.size w w' := by
  obtain ⟨g0, g1, g2, g3, g4, g5⟩ := good_parts hg
  have con : ∀ W, Below w.heap.size w W → Calls Try.prog 19 #[.agg #[.int .i64 r.slots, .slice A r.al.length ca, .slice D r.dl.length cd]] W fun e w' => e = .returned (.int .i64 0) ∧ Below W.heap.size W w' := fun W hW => by
    have := rcheck_any r A D ca cd W ((hA.below hW).more hW.size) ((hD.below hW).more hW.size) (by omega) (by omega)
    rwa [← check_agree, show checkE r = 0 by simp [checkE, hg]] at this
  obtain ⟨slots, al, dl⟩ := r
  dsimp only at *
  have henc : Hid (encR ⟨slots, al, dl⟩ = vars [slots, (al.length : Int)] ++ (encA 0 al ++ (vars [(dl.length : Int)] ++ encD 0 dl))) := Lib.hid rfl
  generalize encR ⟨slots, al, dl⟩ = full at henc ⊢
  obtain ⟨na, hna⟩ : ∃ n, n = al.length := ⟨_, rfl⟩
  obtain ⟨nd, hnd⟩ : ∃ n, n = dl.length := ⟨_, rfl⟩
  rw [← hna, ← hnd] at con henc ⊢
  rw [← hna] at g2
  rw [← hnd] at g3
  have HA := Lib.hid hna
  have HD := Lib.hid hnd
  have Con := Lib.hid con
  have G4 := Lib.hid g4
  have G5 := Lib.hid g5
  clear con hg hna hnd g4 g5
  go_enter Try.func17, Try.ntmps17
  go_wp2_with fail
  refine (Con.out _ ((Below.refl _ _).alloc (Nat.le_refl _) _)).mono ?_
  rintro e w1 ⟨rfl, hb1⟩
  have row1 : Row w1 w.heap.size [.int .i64 slots, .slice A na ca, .slice D nd cd] := (Row.new w _ _).below hb1 (by simp)
  have hbw : Below w.heap.size w w1 := ((Below.refl _ _).alloc (Nat.le_refl _) _).trans (hb1.mono (by simp))
  have hz : w.heap.size < w1.heap.size := by have := hb1.size; simp at this; omega
  have R1 := Lib.hid row1
  clear hb1
  go_upto_region 3 with fail
  go_cut [4] (fun s4 W => s4 = .string ⟨(vars [slots, (na : Int)]).toArray⟩ ∧ Below w1.heap.size w1 W)
  case first =>
    have x1 := R1.out.ext (B := w1.heap.size) hz
    have l1 := varN_length slots.toNat
    have l2 := varN_length na
    have hcc : (9223372036854775807 < (varN slots.toNat).length + (varN na).length) = False := by simp; omega
    clear row1
    refine wp_region_ext w1.heap.size (by kernel_rfl) (by kernel_rfl) ?_
    repeat (go_big_quiet_step ((go_at_call 43; exact Calls.ext_of (varying_int _ _ (by omega) (by omega)) (Nat.le_refl _))))
    refine wpQuiet_nil ?_
    rintro _ ⟨x, rfl⟩
    go_wp2_with fail
    go_meet
    exact ⟨by rw [str_append]; simp [vars], x.below⟩
  case rest =>
    obtain ⟨rfl, hb2⟩ := hcut
    obtain ⟨w2, hw2⟩ : ∃ w2 : World, w2 = wc := ⟨_, rfl⟩
    subst hw2
    have hl2 := vars_length [slots, (na : Int)]
    clear row1
    have row1 := R1.out.below hb2 hz
    unfold Row at row1
    go_wp2_with fail
    go_loopw [4, 5, 6] (fun s4 s5 i wr => ∃ (k : Nat) (ys : List UInt8) (at_ : Int), k ≤ na ∧ i = .int .i64 k ∧ s5 = .int .i64 at_ ∧ s4 = .string ⟨ys.toArray⟩ ∧ Below w1.heap.size w1 wr ∧ ys.length ≤ 20 + 80 * k ∧ Hid (at_ = lastA al k) ∧
      Hid (full = ys ++ (encA at_ (al.drop k) ++ (vars [(nd : Int)] ++ encD 0 dl)))) (fun _ _ i _ => na - (intOf i).toNat)
    case atStart => exact ⟨0, vars [slots, (na : Int)], 0, Nat.zero_le _, rfl, rfl, rfl, hb2, by simpa using hl2, Lib.hid rfl, Lib.hid (by rw [henc.out]; rfl)⟩
    case round =>
      obtain ⟨k, ys, at_, hk, rfl, rfl, rfl, hb, hyl, hat, hst⟩ := hrel
      clear row1
      have row1 := R1.out.below hb hz
      have hb0 : Below w.heap.size w wr := hbw.trans (hb.mono hbw.size)
      have hsz := hb.size
      unfold Row at row1
      by_cases hlt : k < na
      · obtain ⟨a, ha⟩ := get_of_lt (l := al) (k := k) (by rw [← HA.out]; exact hlt)
        obtain ⟨b, off, rfl, hbB, hcs⟩ := (hA.below hb0).at_ ha
        obtain ⟨c0, c1, c2, c3, c4, c5, c6, c7⟩ := hcs k a ha
        obtain ⟨q1, q2⟩ := atts_all G4.out ha
        have q3 := lastA_nonneg G4.out k
        rw [← hat.out] at q2 q3
        obtain ⟨⟨m0, m1⟩, ⟨m2, m3⟩, ⟨m4, m5⟩, ⟨m6, m7⟩, ⟨m8, m9⟩, ⟨m10, m11⟩, ⟨m12, m13⟩, ⟨m14, m15⟩⟩ := attB_ranges q1
        have hd := Lib.hid (drop_of_get ha)
        have hls := Lib.hid (lastA_succ ha)
        clear hcs ha q1
        go_upto_region 10 with fail
        generalize hW1 : World.alloc _ _ = W1
        have hb1 : Below w1.heap.size w1 W1 := by rw [← hW1]; exact (hb.alloc hsz _).alloc (by simp; omega) _
        have row7 : Row W1 wr.heap.size [.int .i64 a.s, .int .i64 a.f, .int .i64 a.cs, .int .i64 a.co, .int .i64 a.cf, .int .i64 a.ct, .int .i64 a.cl, .int .i64 a.o] := by rw [← hW1]; exact (Row.new wr _ _).alloc (by simp) _
        have row8 : Row W1 (wr.heap.size + 1) [.int .i64 a.cs, .int .i64 a.co, .int .i64 a.cf, .int .i64 a.ct, .int .i64 a.cl] := by rw [← hW1]; exact Row.new' _ _ (by simp)
        have hz1 : wr.heap.size + 1 < W1.heap.size := by rw [← hW1]; simp
        clear hW1 c0 c1 c2 c3 c4 c5 c6 c7 row1
        go_cut [4] (fun s4 W => s4 = .string ⟨(ys ++ vars (attI at_ a)).toArray⟩ ∧ Below W1.heap.size W1 W)
        case first =>
          have x7 := row7.ext (B := W1.heap.size) (by omega)
          have x8 := row8.ext (B := W1.heap.size) hz1
          have hw1 : IntKind.i64.wrap (a.s - at_) = a.s - at_ := by rw [IntWalk.i64_in _ (by omega)]
          have l0 := varN_length (a.s - at_).toNat
          have l1 := varN_length a.f.toNat
          have l2 := varN_length a.cs.toNat
          have l3 := varN_length a.co.toNat
          have l4 := varN_length a.cf.toNat
          have l5 := varN_length a.ct.toNat
          have l6 := varN_length a.cl.toNat
          have l7 := varN_length a.o.toNat
          have s2 : (9223372036854775807 < (varN (a.s - at_).toNat).length + (varN a.f.toNat).length) = False := by simp; omega
          have s3 : (9223372036854775807 < (varN (a.s - at_).toNat).length + (varN a.f.toNat).length + (varN a.cs.toNat).length) = False := by simp; omega
          have s4 : (9223372036854775807 < (varN (a.s - at_).toNat).length + (varN a.f.toNat).length + (varN a.cs.toNat).length + (varN a.co.toNat).length) = False := by simp; omega
          have s5 : (9223372036854775807 < (varN (a.s - at_).toNat).length + (varN a.f.toNat).length + (varN a.cs.toNat).length + (varN a.co.toNat).length + (varN a.cf.toNat).length) = False := by simp; omega
          have s6 : (9223372036854775807 < (varN (a.s - at_).toNat).length + (varN a.f.toNat).length + (varN a.cs.toNat).length + (varN a.co.toNat).length + (varN a.cf.toNat).length + (varN a.ct.toNat).length) = False := by simp; omega
          have s7 : (9223372036854775807 < (varN (a.s - at_).toNat).length + (varN a.f.toNat).length + (varN a.cs.toNat).length + (varN a.co.toNat).length + (varN a.cf.toNat).length + (varN a.ct.toNat).length + (varN a.cl.toNat).length) = False := by simp; omega
          have s8 : (9223372036854775807 < (varN (a.s - at_).toNat).length + (varN a.f.toNat).length + (varN a.cs.toNat).length + (varN a.co.toNat).length + (varN a.cf.toNat).length + (varN a.ct.toNat).length + (varN a.cl.toNat).length + (varN a.o.toNat).length) = False := by simp; omega
          have s9 : (9223372036854775807 < ys.length + ((varN (a.s - at_).toNat).length + (varN a.f.toNat).length + (varN a.cs.toNat).length + (varN a.co.toNat).length + (varN a.cf.toNat).length + (varN a.ct.toNat).length + (varN a.cl.toNat).length + (varN a.o.toNat).length)) = False := by simp; omega
          refine wp_region_ext W1.heap.size (by kernel_rfl) (by kernel_rfl) ?_
          repeat (go_big_quiet_step ((go_at_call 43; exact Calls.ext_of (varying_int _ _ (by omega) (by omega)) (Nat.le_refl _))))
          refine wpQuiet_nil ?_
          rintro _ ⟨x, rfl⟩
          go_wp2_with fail
          go_meet
          exact ⟨by simp only [str_append]; simp [vars, attI], x.below⟩
        case rest =>
          obtain ⟨rfl, hb3⟩ := hcut
          have row7' := row7.below hb3 (by omega)
          have hb4 : Below w1.heap.size w1 wc := hb1.trans (hb3.mono hb1.size)
          have hl3 := vars_length (attI at_ a)
          have hl4 : (attI at_ a).length = 8 := rfl
          unfold Row at row7'
          go_wp2_with fail
          go_roundw
          case rel => exact ⟨k + 1, ys ++ vars (attI at_ a), a.s, by omega, by go_num, rfl, rfl, hb4, by simp; omega, Lib.hid (by rw [hls.out]), Lib.hid (by rw [hst.out, hd.out]; simp [encA])⟩
          case measure => simp [intOf]; omega
      · have hst1 : full = ys ++ (vars [(nd : Int)] ++ encD 0 dl) := by rw [hst.out, List.drop_of_length_le (by rw [← HA.out]; omega)]; simp [encA]
        have hst2 := Lib.hid hst1
        have lv := varN_length nd
        have hcc : (9223372036854775807 < ys.length + (varN nd).length) = False := by simp; omega
        clear hst1 hst hat
        go_wp2_with (go_at_call 43; refine (varying_int _ _ (by omega) (by omega)).mono ?_; rintro e w4 ⟨rfl, hb4⟩; have hb5 : Below w1.heap.size w1 w4 := hb.trans (hb4.mono hsz); have row5 := R1.out.below hb5 hz; unfold Row at row5)
        clear row1
        go_loopw [4, 5, 9] (fun s4 s5 i wr => ∃ (k : Nat) (zs : List UInt8) (at_ : Int), k ≤ nd ∧ i = .int .i64 k ∧ s5 = .int .i64 at_ ∧ s4 = .string ⟨zs.toArray⟩ ∧ Below w1.heap.size w1 wr ∧ zs.length ≤ 10000000 + 30 * k ∧ Hid (at_ = lastD dl k) ∧
          Hid (full = zs ++ encD at_ (dl.drop k))) (fun _ _ i _ => nd - (intOf i).toNat)
        case atStart => exact ⟨0, ys ++ vars [(nd : Int)], 0, Nat.zero_le _, rfl, rfl, by first | (rw [str_append]; simp [vars]; done) | (simp [vars]; done), by assumption, by simp [vars]; omega, Lib.hid rfl, Lib.hid (by rw [hst2.out]; simp)⟩
        case round =>
          clear hb0 hb hsz
          obtain ⟨k, zs, at_, hk, rfl, rfl, rfl, hb, hyl, hat, hst⟩ := hrel
          have row1 := R1.out.below hb hz
          have hb0 : Below w.heap.size w wr := hbw.trans (hb.mono hbw.size)
          have hsz := hb.size
          unfold Row at row1
          by_cases hlt : k < nd
          · obtain ⟨a, ha⟩ := get_of_lt (l := dl) (k := k) (by rw [← HD.out]; exact hlt)
            obtain ⟨b, off, rfl, hbB, hcs⟩ := (hD.below hb0).at_ ha
            obtain ⟨c0, c1, c2⟩ := hcs k a ha
            obtain ⟨q1, q2⟩ := dlvs_all G5.out ha
            have q3 := lastD_nonneg G5.out k
            rw [← hat.out] at q2 q3
            obtain ⟨⟨m0, m1⟩, ⟨m2, m3⟩, ⟨m4, m5⟩⟩ := dlvB_ranges q1
            have hd := Lib.hid (drop_of_get ha)
            have hls := Lib.hid (lastD_succ ha)
            clear hcs ha q1
            go_upto_region 18 with fail
            generalize hW1 : World.alloc _ _ = W1
            have hb1 : Below w1.heap.size w1 W1 := by rw [← hW1]; exact hb.alloc hsz _
            have row7 : Row W1 wr.heap.size [.int .i64 a.fl, .int .i64 a.fr, .int .i64 a.sl] := by rw [← hW1]; exact Row.new wr _ _
            have hz1 : wr.heap.size < W1.heap.size := by rw [← hW1]; simp
            clear hW1 c0 c1 c2 row1
            go_cut [4] (fun s4 W => s4 = .string ⟨(zs ++ vars (dlvI at_ a)).toArray⟩ ∧ Below W1.heap.size W1 W)
            case first =>
              have x7 := row7.ext (B := W1.heap.size) hz1
              have hw1 : IntKind.i64.wrap (a.sl - at_) = a.sl - at_ := by rw [IntWalk.i64_in _ (by omega)]
              have l0 := varN_length (a.sl - at_).toNat
              have l1 := varN_length a.fl.toNat
              have l2 := varN_length a.fr.toNat
              have s2 : (9223372036854775807 < (varN (a.sl - at_).toNat).length + (varN a.fl.toNat).length) = False := by simp; omega
              have s3 : (9223372036854775807 < (varN (a.sl - at_).toNat).length + (varN a.fl.toNat).length + (varN a.fr.toNat).length) = False := by simp; omega
              have s9 : (9223372036854775807 < zs.length + ((varN (a.sl - at_).toNat).length + (varN a.fl.toNat).length + (varN a.fr.toNat).length)) = False := by simp; omega
              refine wp_region_ext W1.heap.size (by kernel_rfl) (by kernel_rfl) ?_
              repeat (go_big_quiet_step ((go_at_call 43; exact Calls.ext_of (varying_int _ _ (by omega) (by omega)) (Nat.le_refl _))))
              refine wpQuiet_nil ?_
              rintro _ ⟨x, rfl⟩
              go_wp2_with fail
              go_meet
              exact ⟨by simp only [str_append]; simp [vars, dlvI], x.below⟩
            case rest =>
              obtain ⟨rfl, hb3⟩ := hcut
              have row7' := row7.below hb3 hz1
              have hb4 : Below w1.heap.size w1 wc := hb1.trans (hb3.mono hb1.size)
              have hl3 := vars_length (dlvI at_ a)
              have hl4 : (dlvI at_ a).length = 3 := rfl
              unfold Row at row7'
              go_wp2_with fail
              go_roundw
              case rel => exact ⟨k + 1, zs ++ vars (dlvI at_ a), a.sl, by omega, by go_num, rfl, rfl, hb4, by simp; omega, Lib.hid (by rw [hls.out]), Lib.hid (by rw [hst.out, hd.out]; simp [encD])⟩
              case measure => simp [intOf]; omega
          · have hst1 : full = zs := by rw [hst.out, List.drop_of_length_le (by rw [← HD.out]; omega)]; simp [encD]
            have hst3 := Lib.hid hst1
            clear hst1 hst hat
            go_wp2_with fail
            go_ret2
            exact ⟨ret_str2 hst3.out.symm, hb0⟩

end Go.Proofs.Ytllakkepphpfmaa
