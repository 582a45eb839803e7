/- Walk: attempts of package record. -/
import Derived.Test.YtllakkepphpfmaaChk
import Derived.Test.YtllakkepphpfmaaBits
namespace Go.Proofs.Ytllakkepphpfmaa
open Go.RowKit
open Rc

theorem attB_from {a : Att} {slots : Int} (h : attB a slots = true) : 0 ≤ a.cf ∧ a.cf < 32 := by
  simp [attB, belowB] at h
  omega

set_option maxRecDepth 100000 in
set_option maxHeartbeats 2000000 in
theorem attempts_any (l : List Att) (A : Option Addr) (c : Nat) (slots : Int) (w : World) (hn : l.length ≤ 65536) (hl : LiesA w w.heap.size A l) :
    Calls Try.prog 44 #[.slice A l.length c, .int .i64 slots] w fun e w' => e = .returned (.bool (attsB l slots)) ∧ Below w.heap.size w w' := by
  obtain ⟨n, hln⟩ : ∃ n, n = l.length := ⟨_, rfl⟩
  rw [← hln] at hn ⊢
  have HL := Lib.hid hln
  clear hln
  go_enter Try.func44, Try.ntmps44
  go_wp2
  go_loopw [4, 5, 6, 11] (fun s4 s5 s6 i wr => ∃ (k : Nat) (S : List Int) (at_ : Int), k ≤ n ∧ i = .int .i64 k ∧ s4 = .bool false ∧ s5 = .int .u32 (maskN S) ∧ s6 = .int .i64 at_ ∧ In32 S ∧ Below w.heap.size w wr ∧
      Hid (attsB l slots = attsGo slots (if k = 0 then none else l[k - 1]?) S at_ (l.drop k))) (fun _ _ _ i _ => n - (intOf i).toNat)
  case atStart => exact ⟨0, [], -1, Nat.zero_le _, rfl, rfl, rfl, rfl, fun k hk => by simp at hk, Below.refl _ _, Lib.hid rfl⟩
  case round =>
    obtain ⟨k, S, at_, hk, rfl, rfl, rfl, rfl, hS, hb, hst⟩ := hrel
    by_cases hlt : k < n
    · obtain ⟨a, ha⟩ := get_of_lt (l := l) (k := k) (by rw [← HL.out]; exact hlt)
      obtain ⟨b, off, rfl, hbB, hcs⟩ := (hl.below hb).at_ ha
      obtain ⟨c0, c1, c2, c3, c4, c5, c6, c7⟩ := hcs k a ha
      have hd := Lib.hid (drop_of_get ha)
      have Hcs := Lib.hid hcs
      clear hcs
      have Ha := Lib.hid ha
      clear ha
      go_upto_region 5 with fail
      generalize hW1 : wr.alloc _ = W1
      have hb1 : Below w.heap.size w W1 := by rw [← hW1]; exact hb.alloc hb.size _
      have hz1 : wr.heap.size < W1.heap.size := by rw [← hW1]; simp
      have row8 : Row W1 wr.heap.size [.int .i64 a.s, .int .i64 a.f, .int .i64 a.cs, .int .i64 a.co, .int .i64 a.cf, .int .i64 a.ct, .int .i64 a.cl, .int .i64 a.o] := by rw [← hW1]; exact Row.new wr _ _
      have hkeep : ∀ p : Addr, p.block < w.heap.size → W1.cell? p = wr.cell? p := fun p hp => by rw [← hW1]; exact World.cell?_alloc_lt wr _ p (Nat.lt_of_lt_of_le hp hb.size)
      have HK := Lib.hid hkeep
      clear hkeep c0 c1 c2 c3 c4 c5 c6 c7 hW1
      go_cut [33] (fun s33 W => s33 = .bool (!attB a slots || prevBad (if k = 0 then none else l[k - 1]?) a) ∧ Below w.heap.size w W ∧ Below W1.heap.size W1 W)
      case first =>
        have x8 := row8.ext (B := W1.heap.size) hz1
        have con := fun W => attempt_any a slots W
        cases hat : attB a slots with
        | false =>
          rw [hat] at con
          have Con := Lib.hid con
          clear con
          refine wp_region_ext W1.heap.size (by kernel_rfl) (by kernel_rfl) ?_
          repeat (go_big_quiet_step ((go_at_call 61; exact Calls.ext_of (Con.out _) (Nat.le_refl _))))
          refine wpQuiet_nil ?_
          rintro _ ⟨x, rfl⟩
          go_wp2_with fail
          go_meet
          exact ⟨by rw [hat]; rfl, hb1.trans (x.below.mono hb1.size), x.below⟩
        | true =>
          rw [hat] at con
          have Con := Lib.hid con
          clear con
          by_cases hk0 : k = 0
          · subst hk0
            have hd0 : decide ((0 : Int) < ((0 : Nat) : Int)) = false := rfl
            refine wp_region_ext W1.heap.size (by kernel_rfl) (by kernel_rfl) ?_
            repeat (go_big_quiet_step ((go_at_call 61; exact Calls.ext_of (Con.out _) (Nat.le_refl _))))
            refine wpQuiet_nil ?_
            rintro _ ⟨x, rfl⟩
            go_wp2_with fail
            go_meet
            exact ⟨by rw [hat]; rfl, hb1.trans (x.below.mono hb1.size), x.below⟩
          · obtain ⟨j, rfl⟩ : ∃ j, k = j + 1 := ⟨k - 1, by omega⟩
            obtain ⟨p, hp⟩ := get_of_lt (l := l) (k := j) (by rw [← HL.out]; omega)
            have hcp := Hcs.out j p hp
            have hx : ∀ (x : ExtW W1.heap.size W1) (j : Nat), x.val.cell? ⟨b, j, none⟩ = wr.cell? ⟨b, j, none⟩ := fun x j => (x.cell _ (Nat.lt_of_lt_of_le hbB hb1.size)).trans (HK.out _ hbB)
            obtain ⟨p0, p1, p2, p3, p4, p5, p6, p7⟩ := hcp
            have hki : decide ((0 : Int) < ((j + 1 : Nat) : Int)) = true := by simp
            have hw1 : IntKind.i64.wrap (((j + 1 : Nat) : Int) - 1) = (j : Int) := by rw [IntWalk.i64_in _ (by omega)]; omega
            have hjn : (j : Int) < (n : Int) := by omega
            have con2 := fun W => compare_any p a W
            have Con2 := Lib.hid con2
            have HP := Lib.hid hp
            clear con2 hp
            refine wp_region_ext W1.heap.size (by kernel_rfl) (by kernel_rfl) ?_
            repeat (go_big_quiet_step ((first | (go_at_call 61; exact Calls.ext_of (Con.out _) (Nat.le_refl _)) | (go_at_call 62; exact Calls.ext_of (Con2.out _) (Nat.le_refl _)))))
            refine wpQuiet_nil ?_
            rintro _ ⟨x, rfl⟩
            go_wp2_with fail
            go_meet
            exact ⟨by simp [prevBad, HP.out, hat], hb1.trans (x.below.mono hb1.size), x.below⟩
      case rest =>
        obtain ⟨rfl, hb2, hb3⟩ := hcut
        have row8' := row8.below hb3 hz1
        have hst' := hst.out
        rw [hd.out] at hst'
        simp only [attsGo] at hst'
        have x8 : ∀ i, wc.cell? ⟨wr.heap.size, i, none⟩ = _ := row8'
        generalize hbad : (!attB a slots || prevBad (if k = 0 then none else l[k - 1]?) a) = bad at hst' ⊢
        cases bad with
        | true =>
          have hfin := Lib.hid hst'
          clear hst' hbad
          go_wp2
          go_ret
          exact ⟨ret_bool (by rw [hfin.out]; rfl), hb2⟩
        | false =>
          simp only [Bool.false_eq_true, if_false] at hst'
          obtain ⟨f0, f1⟩ := attB_from (a := a) (slots := slots) (by revert hbad; cases attB a slots <;> simp)
          clear hbad
          by_cases hsl : a.s = at_
          · rw [if_pos hsl] at hst'
            by_cases hin : a.cf ∈ S
            · rw [if_pos hin] at hst'
              have hfin := Lib.hid hst'
              have hm : (bits .and .u32 ((maskN S : Int) / 2 ^ a.cf.toNat) 1 == 1) = true := by rw [mask_asked S hS _ f0 f1]; simp [hin]
              clear hst'
              subst hsl
              go_wp2
              go_ret
              exact ⟨ret_bool (by rw [hfin.out]), hb2⟩
            · rw [if_neg hin] at hst'
              have hfin := Lib.hid hst'
              have hm : (bits .and .u32 ((maskN S : Int) / 2 ^ a.cf.toNat) 1 == 1) = false := by rw [mask_asked S hS _ f0 f1]; simp [hin]
              clear hst'
              subst hsl
              go_wp2
              go_roundw
              case rel => exact ⟨k + 1, a.cf :: S, a.s, by omega, by go_num, rfl, by rw [mask_more S hS _ f0 f1], rfl, fun j hj => by rcases List.mem_cons.1 hj with h | h; exact h ▸ ⟨f0, f1⟩; exact hS j h, hb2, Lib.hid (by rw [hfin.out, if_neg (by omega), show k + 1 - 1 = k from rfl, Ha.out])⟩
              case measure => simp [intOf]; omega
          · rw [if_neg hsl] at hst'
            have hfin := Lib.hid hst'
            have hm : (bits .and .u32 (0 / 2 ^ a.cf.toNat) 1 == 1) = false := by have := mask_asked [] (fun k hk => by simp at hk) _ f0 f1; simpa [maskN] using this
            have hm2 := mask_more [] (fun k hk => by simp at hk) _ f0 f1
            have hm0 : ((maskN [] : Nat) : Int) = 0 := rfl
            rw [hm0] at hm2
            have Hm2 := Lib.hid hm2
            have hne : (a.s == at_) = false := by simpa using hsl
            have hne2 : (a.s != at_) = true := by simpa using hsl
            clear hst' hm2 hm0
            go_wp2
            go_quiet (fail)
            go_wp2
            go_roundw
            case rel => exact ⟨k + 1, [a.cf], a.s, by omega, by go_num, rfl, by rw [Hm2.out], rfl, fun j hj => by simp at hj; exact hj ▸ ⟨f0, f1⟩, below_drewN hb2 _, Lib.hid (by rw [hfin.out, if_neg (by omega), show k + 1 - 1 = k from rfl, Ha.out])⟩
            case measure => simp [intOf]; omega
    · go_wp2
      go_ret
      exact ⟨ret_bool (by rw [hst.out, List.drop_of_length_le (by rw [← HL.out]; omega)]; simp [attsGo]), hb⟩

end Go.Proofs.Ytllakkepphpfmaa
