import Derived.StillTailTactics
import Derived.Deep.RegionHeld3
import Derived.Deep.DeepCutAuto
import Derived.Test.YtkdigdnacggknaaProg
import Derived.WalkKit
import Derived.Laws.Entries
import Derived.Test.YtkdigdnacggknaaZPure
/- Walks: below, attempt, Compare, Or, compare of package record. -/
namespace Go.Proofs.Ytkdigdnacggknaa
open Go.RowKit
open Rc

theorem below_any (n m : Int) (w : World) : Calls Try.prog 75 #[.int .i64 n, .int .i64 m] w fun e w' => e = .returned (.bool (belowB n m)) ∧ w = w' := by
  go_enter Try.func75, Try.ntmps75
  by_cases h : 0 ≤ n
  · go_wp2
    go_ret
    simp [h, belowB]
  · go_wp2
    go_ret
    simp [belowB]; omega

theorem attempt_any (a : Att) (slots : Int) (w : World) : Calls Try.prog 99 #[.agg #[.int .i64 a.s, .int .i64 a.f, .int .i64 a.cs, .int .i64 a.co, .int .i64 a.cf, .int .i64 a.ct, .int .i64 a.cl, .int .i64 a.o], .int .i64 slots] w fun e w' => e = .returned (.bool (attB a slots)) ∧ Below w.heap.size w w' := by
  obtain ⟨s, f, cs, co, cf, ct, cl, o⟩ := a
  go_enter Try.func99, Try.ntmps99
  go_wp2_with (go_at_call 75; refine (below_any _ _ _).mono ?_; rintro e w' ⟨rfl, rfl⟩)
  all_goals
    go_ret
    exact ⟨ret_bool (by first | (simp [attB, *]; done) | (simp [attB, *]; omega) | (simp [attB, bne, *]; done)), by repeat (first | exact Below.refl _ _ | refine Below.alloc ?_ (by simp) _ )⟩

theorem isNaN_any (n : Int) (w : World) : Calls Try.prog 79 #[.int .i64 n] w fun e w' => e = .returned (.bool false) ∧ w = w' := by
  go_enter Try.func79, Try.ntmps79
  go_wp2
  go_ret
  simp

theorem cmp_any (x y : Int) (w : World) : Calls Try.prog 56 #[.int .i64 x, .int .i64 y] w fun e w' => e = .returned (.int .i64 (cmpI x y)) ∧ w = w' := by
  go_enter Try.func56, Try.ntmps56
  go_wp2_with (go_at_call 79; refine (isNaN_any _ _).mono ?_; rintro e w' ⟨rfl, rfl⟩)
  all_goals
    go_ret
    exact ⟨ret_int (by unfold cmpI; repeat' split; all_goals first | rfl | omega), rfl⟩

theorem or_any (l : List Int) (b off c : Nat) (w : World) (hn : l.length ≤ 1000) (hc : ∀ k x, l[k]? = some x → w.cell? ⟨b, off + k, none⟩ = some (.int .i64 x)) :
    Calls Try.prog 55 #[.slice (some ⟨b, off, none⟩) l.length c] w fun e w' => e = .returned (.int .i64 (orI l)) ∧ w = w' := by
  obtain ⟨n, hl⟩ : ∃ n, n = l.length := ⟨_, rfl⟩
  rw [← hl] at hn ⊢
  have HL := Lib.hid hl
  clear hl
  go_enter Try.func55, Try.ntmps55
  go_wp2
  go_loop [2, 8] (fun r i => ∃ k : Nat, k ≤ n ∧ i = .int .i64 k ∧ r = .int .i64 0 ∧ Hid (orI l = orI (l.drop k))) (fun _ i => n - (intOf i).toNat)
  case atStart => exact ⟨0, Nat.zero_le _, rfl, rfl, Lib.hid rfl⟩
  case round =>
    obtain ⟨k, hk, rfl, rfl, hst⟩ := hrel
    by_cases hlt : k < n
    · obtain ⟨x, hx⟩ := get_of_lt (l := l) (k := k) (by rw [← HL.out]; exact hlt)
      have hcx := hc k x hx
      have hd := Lib.hid (drop_of_get hx)
      clear hx
      by_cases h0 : x = 0
      · subst h0
        go_wp2
        go_round
        case rel => exact ⟨k + 1, by omega, by go_num, rfl, Lib.hid (by rw [hst.out, hd.out]; simp [orI])⟩
        case measure => simp [intOf]; omega
      · go_wp2
        go_ret
        exact ⟨ret_int (by rw [hst.out, hd.out]; simp [orI, h0]), rfl⟩
    · go_wp2
      go_ret
      exact ⟨ret_int (by rw [hst.out, List.drop_of_length_le (by rw [← HL.out]; omega)]; rfl), rfl⟩

set_option maxRecDepth 100000 in
set_option maxHeartbeats 1000000 in
theorem compare_any (x y : Att) (w : World) : Calls Try.prog 100 #[.agg #[.int .i64 x.s, .int .i64 x.f, .int .i64 x.cs, .int .i64 x.co, .int .i64 x.cf, .int .i64 x.ct, .int .i64 x.cl, .int .i64 x.o], .agg #[.int .i64 y.s, .int .i64 y.f, .int .i64 y.cs, .int .i64 y.co, .int .i64 y.cf, .int .i64 y.ct, .int .i64 y.cl, .int .i64 y.o]] w
    fun e w' => e = .returned (.int .i64 (cmpA x y)) ∧ Below w.heap.size w w' := by
  obtain ⟨s, f, cs, co, cf, ct, cl, o⟩ := x
  obtain ⟨s', f', cs', co', cf', ct', cl', o'⟩ := y
  go_enter Try.func100, Try.ntmps100
  go_upto_region 1 with fail
  go_cut [5, 6] (fun s5 s6 W => ∃ g5 g6 : Nat, s5 = .pointer (some ⟨g5, 0, none⟩) ∧ s6 = .pointer (some ⟨g6, 0, none⟩) ∧ g5 < W.heap.size ∧ g6 < W.heap.size ∧ w.heap.size + 1 < W.heap.size ∧ Below w.heap.size w W ∧
      Row W w.heap.size [.int .i64 s, .int .i64 f, .int .i64 cs, .int .i64 co, .int .i64 cf, .int .i64 ct, .int .i64 cl, .int .i64 o] ∧
      Row W (w.heap.size + 1) [.int .i64 s', .int .i64 f', .int .i64 cs', .int .i64 co', .int .i64 cf', .int .i64 ct', .int .i64 cl', .int .i64 o'] ∧
      Row W g5 [.int .i64 cs, .int .i64 co, .int .i64 cf, .int .i64 ct, .int .i64 cl] ∧ Row W g6 [.int .i64 cs', .int .i64 co', .int .i64 cf', .int .i64 ct', .int .i64 cl'])
  case first =>
    go_region
    all_goals
      go_wp2_with fail
      go_meet
      refine ⟨_, _, rfl, rfl, ?_, ?_, ?_, ?_, ?_, ?_, ?_, ?_⟩
      all_goals first
        | (simp; done)
        | (simp; omega)
        | (refine Below.drew (Below.alloc (Below.alloc (Below.alloc (Below.alloc (Below.refl _ _) ?_ _) ?_ _) ?_ _) ?_ _) <;> (simp; try omega))
        | (refine Row.drew ?_; refine Row.new' _ _ ?_; simp; done)
        | (refine Row.drew ?_; refine Row.alloc (Row.new' _ _ ?_) ?_ _ <;> simp; done)
        | (refine Row.drew ?_; refine Row.alloc (Row.alloc (Row.new' _ _ ?_) ?_ _) ?_ _ <;> (simp; try omega); done)
        | (refine Row.drew ?_; refine Row.alloc (Row.alloc (Row.alloc (Row.new' _ _ ?_) ?_ _) ?_ _) ?_ _ <;> (simp; try omega); done)
  case rest =>
    obtain ⟨g5, g6, rfl, rfl, h5, h6, hz, hb, r2, r3, r5, r6⟩ := hcut
    have x2 := r2.ext (B := wc.heap.size) (by omega)
    have x3 := r3.ext (B := wc.heap.size) (by omega)
    have x5 := r5.ext (B := wc.heap.size) h5
    have x6 := r6.ext (B := wc.heap.size) h6
    go_wp2_with fail
    refine wp_region_ext_tail wc.heap.size 30 (by kernel_rfl) (by kernel_rfl) ?_
    simp only [List.take_succ_cons, List.take_zero, List.drop_succ_cons, List.drop_zero]
    repeat (go_big_quiet_step ((go_at_call 56; exact Calls.ext_same (cmp_any _ _ _))))
    refine wpQuiet_nil ?_
    rintro _ ⟨x, rfl⟩
    have hb' := hb.trans (x.below.mono hb.size)
    obtain ⟨W, hW⟩ := x
    go_wp2_with (go_at_call 55; refine (or_any [cmpI s s', cmpI cs cs', cmpI co co', cmpI cf cf', cmpI ct ct', cmpI cl cl'] _ 0 6 _ (by simp) ?_).mono ?_)
    · exact fun k x hx => ints_get hx
    go_ret
    exact ⟨rfl, hb'.alloc (hb'.size) _⟩

end Go.Proofs.Ytkdigdnacggknaa
/- Plain laws on bits: masks of 32 bits as lists of numbers. -/
namespace Go.Proofs.Ytkdigdnacggknaa
namespace Rc
open Go.RowKit

def maskN (S : List Int) : Nat := S.foldr (fun k m => m ||| 2 ^ k.toNat) 0
def In32 (S : List Int) : Prop := ∀ k ∈ S, 0 ≤ k ∧ k < 32

theorem maskN_lt (S : List Int) (h : In32 S) : maskN S < 2 ^ 32 := by
  induction S with
  | nil => simp [maskN]
  | cons k S ih =>
    have h1 : maskN S < 2 ^ 32 := ih fun x hx => h x (List.mem_cons_of_mem _ hx)
    have hk := h k List.mem_cons_self
    show maskN S ||| 2 ^ k.toNat < 2 ^ 32
    exact Nat.or_lt_two_pow h1 (Nat.pow_lt_pow_right (by omega) (by omega))

theorem maskN_test (S : List Int) (h : In32 S) (k : Int) (hk : 0 ≤ k) : (maskN S).testBit k.toNat = decide (k ∈ S) := by
  induction S with
  | nil => simp [maskN]
  | cons j S ih =>
    have h1 := ih fun x hx => h x (List.mem_cons_of_mem _ hx)
    have hj := h j List.mem_cons_self
    show (maskN S ||| 2 ^ j.toNat).testBit k.toNat = _
    rw [Nat.testBit_or, h1, Nat.testBit_two_pow]
    have e : (j.toNat = k.toNat) ↔ k = j := by omega
    by_cases hkj : k = j
    · simp [hkj]
    · have : ¬ j.toNat = k.toNat := by omega
      simp [hkj, this]

theorem bits_and_u32 (a b : Nat) (ha : a < 2 ^ 32) (hb : b < 2 ^ 32) : bits .and .u32 (a : Int) (b : Int) = ((a &&& b : Nat) : Int) := by
  have h : a &&& b < 2 ^ 32 := Nat.lt_of_le_of_lt Nat.and_le_left ha
  show IntKind.u32.wrap ((BitVec.ofInt 32 (a : Int) &&& BitVec.ofInt 32 (b : Int)).toNat : Int) = _
  rw [BitVec.toNat_and, BitVec.ofInt_natCast, BitVec.ofInt_natCast, BitVec.toNat_ofNat, BitVec.toNat_ofNat, Nat.mod_eq_of_lt (by omega), Nat.mod_eq_of_lt (by omega)]
  generalize a &&& b = c at h ⊢
  simp [IntKind.wrap, IntKind.bits, IntKind.signed]
  omega

theorem bits_or_u32 (a b : Nat) (ha : a < 2 ^ 32) (hb : b < 2 ^ 32) : bits .or .u32 (a : Int) (b : Int) = ((a ||| b : Nat) : Int) := by
  have h : a ||| b < 2 ^ 32 := Nat.or_lt_two_pow ha hb
  show IntKind.u32.wrap ((BitVec.ofInt 32 (a : Int) ||| BitVec.ofInt 32 (b : Int)).toNat : Int) = _
  rw [BitVec.toNat_or, BitVec.ofInt_natCast, BitVec.ofInt_natCast, BitVec.toNat_ofNat, BitVec.toNat_ofNat, Nat.mod_eq_of_lt (by omega), Nat.mod_eq_of_lt (by omega)]
  generalize a ||| b = c at h ⊢
  simp [IntKind.wrap, IntKind.bits, IntKind.signed]
  omega

theorem bits_and_u8 (a b : Nat) (ha : a < 2 ^ 8) (hb : b < 2 ^ 8) : bits .and .u8 (a : Int) (b : Int) = ((a &&& b : Nat) : Int) := by
  have h : a &&& b < 2 ^ 8 := Nat.lt_of_le_of_lt Nat.and_le_left ha
  show IntKind.u8.wrap ((BitVec.ofInt 8 (a : Int) &&& BitVec.ofInt 8 (b : Int)).toNat : Int) = _
  rw [BitVec.toNat_and, BitVec.ofInt_natCast, BitVec.ofInt_natCast, BitVec.toNat_ofNat, BitVec.toNat_ofNat, Nat.mod_eq_of_lt (by omega), Nat.mod_eq_of_lt (by omega)]
  generalize a &&& b = c at h ⊢
  simp [IntKind.wrap, IntKind.bits, IntKind.signed]
  omega

theorem bits_or_u8 (a b : Nat) (ha : a < 2 ^ 8) (hb : b < 2 ^ 8) : bits .or .u8 (a : Int) (b : Int) = ((a ||| b : Nat) : Int) := by
  have h : a ||| b < 2 ^ 8 := Nat.or_lt_two_pow ha hb
  show IntKind.u8.wrap ((BitVec.ofInt 8 (a : Int) ||| BitVec.ofInt 8 (b : Int)).toNat : Int) = _
  rw [BitVec.toNat_or, BitVec.ofInt_natCast, BitVec.ofInt_natCast, BitVec.toNat_ofNat, BitVec.toNat_ofNat, Nat.mod_eq_of_lt (by omega), Nat.mod_eq_of_lt (by omega)]
  generalize a ||| b = c at h ⊢
  simp [IntKind.wrap, IntKind.bits, IntKind.signed]
  omega

theorem bits_or_i64 (a b : Nat) (ha : a < 2 ^ 63) (hb : b < 2 ^ 63) : bits .or .i64 (a : Int) (b : Int) = ((a ||| b : Nat) : Int) := by
  have h : a ||| b < 2 ^ 63 := Nat.or_lt_two_pow ha hb
  show IntKind.i64.wrap ((BitVec.ofInt 64 (a : Int) ||| BitVec.ofInt 64 (b : Int)).toNat : Int) = _
  rw [BitVec.toNat_or, BitVec.ofInt_natCast, BitVec.ofInt_natCast, BitVec.toNat_ofNat, BitVec.toNat_ofNat, Nat.mod_eq_of_lt (by omega), Nat.mod_eq_of_lt (by omega)]
  generalize a ||| b = c at h ⊢
  simp [IntKind.wrap, IntKind.bits, IntKind.signed]
  omega

theorem bits_and_i64 (a b : Nat) (ha : a < 2 ^ 63) (hb : b < 2 ^ 63) : bits .and .i64 (a : Int) (b : Int) = ((a &&& b : Nat) : Int) := by
  have h : a &&& b < 2 ^ 63 := Nat.lt_of_le_of_lt Nat.and_le_left ha
  show IntKind.i64.wrap ((BitVec.ofInt 64 (a : Int) &&& BitVec.ofInt 64 (b : Int)).toNat : Int) = _
  rw [BitVec.toNat_and, BitVec.ofInt_natCast, BitVec.ofInt_natCast, BitVec.toNat_ofNat, BitVec.toNat_ofNat, Nat.mod_eq_of_lt (by omega), Nat.mod_eq_of_lt (by omega)]
  generalize a &&& b = c at h ⊢
  simp [IntKind.wrap, IntKind.bits, IntKind.signed]
  omega

/-- 'senders>>from&1 == 1' -/
theorem mask_asked (S : List Int) (h : In32 S) (k : Int) (hk : 0 ≤ k) (_hk' : k < 32) : (bits .and .u32 ((maskN S : Int) / 2 ^ k.toNat) 1 == 1) = decide (k ∈ S) := by
  have hlt := maskN_lt S h
  have e : ((maskN S : Int) / 2 ^ k.toNat) = ((maskN S / 2 ^ k.toNat : Nat) : Int) := by simp
  rw [e, show (1 : Int) = ((1 : Nat) : Int) from rfl, bits_and_u32 _ _ (Nat.lt_of_le_of_lt (Nat.div_le_self _ _) hlt) (by decide), ← maskN_test S h k hk, Nat.testBit, Nat.shiftRight_eq_div_pow]
  generalize maskN S / 2 ^ k.toNat = c
  rw [Nat.and_comm 1 c, Nat.and_one_is_mod]
  rcases Nat.mod_two_eq_zero_or_one c with h0 | h0 <;> rw [h0] <;> rfl

/-- 'senders |= 1 << from' -/
theorem mask_more (S : List Int) (h : In32 S) (k : Int) (hk : 0 ≤ k) (hk' : k < 32) : bits .or .u32 (maskN S : Int) (2 ^ k.toNat % 4294967296) = (maskN (k :: S) : Int) := by
  have hlt := maskN_lt S h
  have hp : 2 ^ k.toNat < 2 ^ 32 := Nat.pow_lt_pow_right (by omega) (by omega)
  have e : (2 ^ k.toNat % 4294967296 : Int) = ((2 ^ k.toNat : Nat) : Int) := by
    have : (2 ^ k.toNat : Int) = ((2 ^ k.toNat : Nat) : Int) := by simp
    rw [this]
    generalize 2 ^ k.toNat = c at hp ⊢
    omega
  rw [e, bits_or_u32 _ _ hlt hp]
  rfl
end Rc
end Go.Proofs.Ytkdigdnacggknaa
/- Walk: attempts of package record. -/
namespace Go.Proofs.Ytkdigdnacggknaa
open Go.RowKit
open Rc

theorem attB_from {a : Att} {slots : Int} (h : attB a slots = true) : 0 ≤ a.cf ∧ a.cf < 32 := by
  simp [attB, belowB] at h
  omega

set_option maxRecDepth 100000 in
set_option maxHeartbeats 2000000 in
theorem attempts_any (l : List Att) (A : Option Addr) (c : Nat) (slots : Int) (w : World) (hn : l.length ≤ 65536) (hl : LiesA w w.heap.size A l) :
    Calls Try.prog 74 #[.slice A l.length c, .int .i64 slots] w fun e w' => e = .returned (.bool (attsB l slots)) ∧ Below w.heap.size w w' := by
  obtain ⟨n, hln⟩ : ∃ n, n = l.length := ⟨_, rfl⟩
  rw [← hln] at hn ⊢
  have HL := Lib.hid hln
  clear hln
  go_enter Try.func74, Try.ntmps74
  go_wp2
  go_loopw [4, 5, 6, 11] (fun s4 s5 s6 i wr => ∃ (k : Nat) (S : List Int) (at_ : Int), k ≤ n ∧ i = .int .i64 k ∧ s4 = .bool false ∧ s5 = .int .u32 (maskN S) ∧ s6 = .int .i64 at_ ∧ In32 S ∧ Below w.heap.size w wr ∧
      Hid (attsB l slots = attsGo slots (if k = 0 then none else l[k - 1]?) S at_ (l.drop k))) (fun _ _ _ i _ => n - (intOf i).toNat)
  case atStart => exact ⟨0, [], -1, Nat.zero_le _, rfl, rfl, rfl, rfl, fun k hk => by simp at hk, Below.refl _ _, Lib.hid rfl⟩
  case round =>
    obtain ⟨k, S, at_, hk, rfl, rfl, rfl, rfl, hS, hb, hst⟩ := hrel
    by_cases hlt : k < n
    · obtain ⟨a, ha⟩ := get_of_lt (l := l) (k := k) (by rw [← HL.out]; exact hlt)
      obtain ⟨b, off, rfl, hbB, hcs⟩ := (hl.below hb).at_ ha
      obtain ⟨c0, c1, c2, c3, c4, c5, c6, c7⟩ := hcs k a ha
      have hd := Lib.hid (drop_of_get ha)
      have Hcs := Lib.hid hcs
      clear hcs
      have Ha := Lib.hid ha
      clear ha
      go_upto_region 5 with fail
      generalize hW1 : wr.alloc _ = W1
      have hb1 : Below w.heap.size w W1 := by rw [← hW1]; exact hb.alloc hb.size _
      have hz1 : wr.heap.size < W1.heap.size := by rw [← hW1]; simp
      have row8 : Row W1 wr.heap.size [.int .i64 a.s, .int .i64 a.f, .int .i64 a.cs, .int .i64 a.co, .int .i64 a.cf, .int .i64 a.ct, .int .i64 a.cl, .int .i64 a.o] := by rw [← hW1]; exact Row.new wr _ _
      have hkeep : ∀ p : Addr, p.block < w.heap.size → W1.cell? p = wr.cell? p := fun p hp => by rw [← hW1]; exact World.cell?_alloc_lt wr _ p (Nat.lt_of_lt_of_le hp hb.size)
      have HK := Lib.hid hkeep
      clear hkeep c0 c1 c2 c3 c4 c5 c6 c7 hW1
      go_cut [33] (fun s33 W => s33 = .bool (!attB a slots || prevBad (if k = 0 then none else l[k - 1]?) a) ∧ Below w.heap.size w W ∧ Below W1.heap.size W1 W)
      case first =>
        have x8 := row8.ext (B := W1.heap.size) hz1
        have con := fun W => attempt_any a slots W
        cases hat : attB a slots with
        | false =>
          rw [hat] at con
          have Con := Lib.hid con
          clear con
          refine wp_region_ext W1.heap.size (by kernel_rfl) (by kernel_rfl) ?_
          repeat (go_big_quiet_step ((go_at_call 99; exact Calls.ext_of (Con.out _) (Nat.le_refl _))))
          refine wpQuiet_nil ?_
          rintro _ ⟨x, rfl⟩
          go_wp2_with fail
          go_meet
          exact ⟨by rw [hat]; rfl, hb1.trans (x.below.mono hb1.size), x.below⟩
        | true =>
          rw [hat] at con
          have Con := Lib.hid con
          clear con
          by_cases hk0 : k = 0
          · subst hk0
            have hd0 : decide ((0 : Int) < ((0 : Nat) : Int)) = false := rfl
            refine wp_region_ext W1.heap.size (by kernel_rfl) (by kernel_rfl) ?_
            repeat (go_big_quiet_step ((go_at_call 99; exact Calls.ext_of (Con.out _) (Nat.le_refl _))))
            refine wpQuiet_nil ?_
            rintro _ ⟨x, rfl⟩
            go_wp2_with fail
            go_meet
            exact ⟨by rw [hat]; rfl, hb1.trans (x.below.mono hb1.size), x.below⟩
          · obtain ⟨j, rfl⟩ : ∃ j, k = j + 1 := ⟨k - 1, by omega⟩
            obtain ⟨p, hp⟩ := get_of_lt (l := l) (k := j) (by rw [← HL.out]; omega)
            have hcp := Hcs.out j p hp
            have hx : ∀ (x : ExtW W1.heap.size W1) (j : Nat), x.val.cell? ⟨b, j, none⟩ = wr.cell? ⟨b, j, none⟩ := fun x j => (x.cell _ (Nat.lt_of_lt_of_le hbB hb1.size)).trans (HK.out _ hbB)
            obtain ⟨p0, p1, p2, p3, p4, p5, p6, p7⟩ := hcp
            have hki : decide ((0 : Int) < ((j + 1 : Nat) : Int)) = true := by simp
            have hw1 : IntKind.i64.wrap (((j + 1 : Nat) : Int) - 1) = (j : Int) := by rw [IntWalk.i64_in _ (by omega)]; omega
            have hjn : (j : Int) < (n : Int) := by omega
            have con2 := fun W => compare_any p a W
            have Con2 := Lib.hid con2
            have HP := Lib.hid hp
            clear con2 hp
            refine wp_region_ext W1.heap.size (by kernel_rfl) (by kernel_rfl) ?_
            repeat (go_big_quiet_step ((first | (go_at_call 99; exact Calls.ext_of (Con.out _) (Nat.le_refl _)) | (go_at_call 100; exact Calls.ext_of (Con2.out _) (Nat.le_refl _)))))
            refine wpQuiet_nil ?_
            rintro _ ⟨x, rfl⟩
            go_wp2_with fail
            go_meet
            exact ⟨by simp [prevBad, HP.out, hat], hb1.trans (x.below.mono hb1.size), x.below⟩
      case rest =>
        obtain ⟨rfl, hb2, hb3⟩ := hcut
        have row8' := row8.below hb3 hz1
        have hst' := hst.out
        rw [hd.out] at hst'
        simp only [attsGo] at hst'
        have x8 : ∀ i, wc.cell? ⟨wr.heap.size, i, none⟩ = _ := row8'
        generalize hbad : (!attB a slots || prevBad (if k = 0 then none else l[k - 1]?) a) = bad at hst' ⊢
        cases bad with
        | true =>
          have hfin := Lib.hid hst'
          clear hst' hbad
          go_wp2
          go_ret
          exact ⟨ret_bool (by rw [hfin.out]; rfl), hb2⟩
        | false =>
          simp only [Bool.false_eq_true, if_false] at hst'
          obtain ⟨f0, f1⟩ := attB_from (a := a) (slots := slots) (by revert hbad; cases attB a slots <;> simp)
          clear hbad
          by_cases hsl : a.s = at_
          · rw [if_pos hsl] at hst'
            by_cases hin : a.cf ∈ S
            · rw [if_pos hin] at hst'
              have hfin := Lib.hid hst'
              have hm : (bits .and .u32 ((maskN S : Int) / 2 ^ a.cf.toNat) 1 == 1) = true := by rw [mask_asked S hS _ f0 f1]; simp [hin]
              clear hst'
              subst hsl
              go_wp2
              go_ret
              exact ⟨ret_bool (by rw [hfin.out]), hb2⟩
            · rw [if_neg hin] at hst'
              have hfin := Lib.hid hst'
              have hm : (bits .and .u32 ((maskN S : Int) / 2 ^ a.cf.toNat) 1 == 1) = false := by rw [mask_asked S hS _ f0 f1]; simp [hin]
              clear hst'
              subst hsl
              go_wp2
              go_roundw
              case rel => exact ⟨k + 1, a.cf :: S, a.s, by omega, by go_num, rfl, by rw [mask_more S hS _ f0 f1], rfl, fun j hj => by rcases List.mem_cons.1 hj with h | h; exact h ▸ ⟨f0, f1⟩; exact hS j h, hb2, Lib.hid (by rw [hfin.out, if_neg (by omega), show k + 1 - 1 = k from rfl, Ha.out])⟩
              case measure => simp [intOf]; omega
          · rw [if_neg hsl] at hst'
            have hfin := Lib.hid hst'
            have hm : (bits .and .u32 (0 / 2 ^ a.cf.toNat) 1 == 1) = false := by have := mask_asked [] (fun k hk => by simp at hk) _ f0 f1; simpa [maskN] using this
            have hm2 := mask_more [] (fun k hk => by simp at hk) _ f0 f1
            have hm0 : ((maskN [] : Nat) : Int) = 0 := rfl
            rw [hm0] at hm2
            have Hm2 := Lib.hid hm2
            have hne : (a.s == at_) = false := by simpa using hsl
            have hne2 : (a.s != at_) = true := by simpa using hsl
            clear hst' hm2 hm0
            go_wp2
            go_quiet (fail)
            go_wp2
            go_roundw
            case rel => exact ⟨k + 1, [a.cf], a.s, by omega, by go_num, rfl, by rw [Hm2.out], rfl, fun j hj => by simp at hj; exact hj ▸ ⟨f0, f1⟩, below_drewN hb2 _, Lib.hid (by rw [hfin.out, if_neg (by omega), show k + 1 - 1 = k from rfl, Ha.out])⟩
            case measure => simp [intOf]; omega
    · go_wp2
      go_ret
      exact ⟨ret_bool (by rw [hst.out, List.drop_of_length_le (by rw [← HL.out]; omega)]; simp [attsGo]), hb⟩

end Go.Proofs.Ytkdigdnacggknaa
/- Walk: Check of package record. -/
namespace Go.Proofs.Ytkdigdnacggknaa
open Go.RowKit
open Rc

/-- A record by value: its number of slots, and two slices. -/
def recV (r : Rec) (A D : Option Addr) (ca cd : Nat) : Value := .agg #[.int .i64 r.slots, .slice A r.al.length ca, .slice D r.dl.length cd]

theorem check_short {r : Rec} (h : ¬ (0 ≤ r.slots ∧ r.slots ≤ 4096 ∧ r.al.length ≤ 65536 ∧ r.dl.length ≤ 65536 ∧ attsB r.al r.slots = true)) : checkE r = 1 := by
  unfold checkE
  rw [if_neg]
  intro hg
  simp [good] at hg
  exact h ⟨hg.1, hg.2.1, hg.2.2.1, hg.2.2.2.1, hg.2.2.2.2.1⟩
theorem check_long {r : Rec} (h0 : 0 ≤ r.slots) (h1 : r.slots ≤ 4096) (h2 : r.al.length ≤ 65536) (h3 : r.dl.length ≤ 65536) (h4 : attsB r.al r.slots = true) : checkE r = if dlvsB r.dl r.slots then 0 else 1 := by
  unfold checkE
  congr 1
  simp [good, h0, h1, h2, h3, h4]

set_option maxRecDepth 100000 in
set_option maxHeartbeats 2000000 in
theorem check_any (r : Rec) (A D : Option Addr) (ca cd : Nat) (w : World) (hA : LiesA w w.heap.size A r.al) (hD : LiesD w w.heap.size D r.dl) (hla : r.al.length ≤ 9223372036854775807) (hld : r.dl.length ≤ 9223372036854775807) :
    Calls Try.prog 50 #[.agg #[.int .i64 r.slots, .slice A r.al.length ca, .slice D r.dl.length cd]] w fun e w' => e = .returned (.int .i64 (checkE r)) ∧ Below w.heap.size w w' := by
  obtain ⟨slots, al, dl⟩ := r
  dsimp only at *
  have hshort := @check_short ⟨slots, al, dl⟩
  have hlong := @check_long ⟨slots, al, dl⟩
  dsimp only at hshort hlong
  have hnA : ∃ n, n = al.length := ⟨_, rfl⟩
  obtain ⟨na, hna⟩ := hnA
  have hnD : ∃ n, n = dl.length := ⟨_, rfl⟩
  obtain ⟨nd, hnd⟩ := hnD
  rw [← hna, ← hnd] at hshort hlong ⊢
  rw [← hna] at hla
  rw [← hnd] at hld
  have HA := Lib.hid hna
  have HD := Lib.hid hnd
  clear hna hnd
  by_cases h0 : slots < 0
  · have hfin := Lib.hid (hshort (by omega))
    clear hshort hlong
    go_enter Try.func50, Try.ntmps50
    go_wp2
    go_ret
    exact ⟨ret_int (by rw [hfin.out]), ((Below.refl _ _).alloc (Nat.le_refl _) _).alloc (by simp) _⟩
  by_cases h1 : 4096 < slots
  · have hfin := Lib.hid (hshort (by omega))
    clear hshort hlong
    go_enter Try.func50, Try.ntmps50
    go_wp2
    go_ret
    exact ⟨ret_int (by rw [hfin.out]), ((Below.refl _ _).alloc (Nat.le_refl _) _).alloc (by simp) _⟩
  by_cases h2 : 65536 < na
  · have hfin := Lib.hid (hshort (by omega))
    clear hshort hlong
    go_enter Try.func50, Try.ntmps50
    go_wp2
    go_ret
    exact ⟨ret_int (by rw [hfin.out]), ((Below.refl _ _).alloc (Nat.le_refl _) _).alloc (by simp) _⟩
  by_cases h3 : 65536 < nd
  · have hfin := Lib.hid (hshort (by omega))
    clear hshort hlong
    go_enter Try.func50, Try.ntmps50
    go_wp2
    go_ret
    exact ⟨ret_int (by rw [hfin.out]), ((Below.refl _ _).alloc (Nat.le_refl _) _).alloc (by simp) _⟩
  have con : ∀ W, Below w.heap.size w W → Calls Try.prog 74 #[.slice A na ca, .int .i64 slots] W fun e w' => e = .returned (.bool (attsB al slots)) ∧ Below W.heap.size W w' := fun W hW => by
    have := attempts_any al A ca slots W (by rw [← HA.out]; omega) ((hA.below hW).more hW.size)
    rwa [← HA.out] at this
  cases hat : attsB al slots with
  | false =>
    rw [hat] at con
    have Con := Lib.hid con
    have hfin := Lib.hid (hshort (by simp [hat]))
    clear hshort hlong con
    go_enter Try.func50, Try.ntmps50
    go_wp2_with (go_at_call 74; refine (Con.out _ (((Below.refl _ _).alloc (Nat.le_refl _) _).alloc (by simp) _)).mono ?_; rintro e w1 ⟨rfl, hb1⟩)
    go_ret
    exact ⟨ret_int (by rw [hfin.out]), (((Below.refl _ _).alloc (Nat.le_refl _) _).alloc (by simp) _).trans (hb1.mono (by simp; omega))⟩
  | true =>
    rw [hat] at con
    have Con := Lib.hid con
    have hfin := Lib.hid (hlong (by omega) (by omega) (by omega) (by omega) hat)
    clear hshort hlong con hat
    go_enter Try.func50, Try.ntmps50
    go_wp2_with fail
    refine (Con.out _ (((Below.refl _ _).alloc (Nat.le_refl _) _).alloc (by simp) _)).mono ?_
    rintro e w1 ⟨rfl, hb1⟩
    have row1 : Row w1 w.heap.size [.int .i64 slots, .slice A na ca, .slice D nd cd] := (Row.alloc (Row.new w _ _) (by simp) _).below hb1 (by simp; omega)
    have row3 : Row w1 (w.heap.size + 1) [.slice A na ca, .slice D nd cd] := (Row.new' _ _ (by simp)).below hb1 (by simp)
    have hbw : Below w.heap.size w w1 := (((Below.refl _ _).alloc (Nat.le_refl _) _).alloc (by simp) _).trans (hb1.mono (by simp; omega))
    have hz : w.heap.size + 1 < w1.heap.size := by have := hb1.size; simp at this; omega
    clear hb1
    have R1 := Lib.hid row1
    have R3 := Lib.hid row3
    unfold Row at row1 row3
    go_wp2_with fail
    go_loopw [2, 39] (fun s2 i wr => ∃ (k : Nat), k ≤ nd ∧ i = .int .i64 k ∧ s2 = .int .i64 0 ∧ Below w1.heap.size w1 wr ∧
      Hid (dlvsB dl slots = dlvsGo slots (if k = 0 then none else dl[k - 1]?) (dl.drop k))) (fun _ i _ => nd - (intOf i).toNat)
    case atStart => exact ⟨0, Nat.zero_le _, rfl, rfl, Below.refl _ _, Lib.hid rfl⟩
    case round =>
      obtain ⟨k, hk, rfl, rfl, hb, hst⟩ := hrel
      clear row1 row3
      have row1 := R1.out.below hb (by omega)
      have row3 := R3.out.below hb (by omega)
      have hb0 : Below w.heap.size w wr := hbw.trans (hb.mono hbw.size)
      unfold Row at row1 row3
      by_cases hlt : k < nd
      · obtain ⟨a, ha⟩ := get_of_lt (l := dl) (k := k) (by rw [← HD.out]; exact hlt)
        obtain ⟨b, off, rfl, hbB, hcs⟩ := (hD.below hb0).at_ ha
        obtain ⟨c0, c1, c2⟩ := hcs k a ha
        have hd := Lib.hid (drop_of_get ha)
        have Hcs := Lib.hid hcs
        have Ha := Lib.hid ha
        clear hcs ha
        have hst' := hst.out
        rw [hd.out] at hst'
        simp only [dlvsGo] at hst'
        have Hst := Lib.hid hst'
        clear hst'
        go_upto_region 7 with fail
        generalize hW1 : wr.alloc _ = W1
        have hb1 : Below w1.heap.size w1 W1 := by rw [← hW1]; exact hb.alloc hb.size _
        have hz1 : wr.heap.size < W1.heap.size := by rw [← hW1]; simp
        have row5 : Row W1 wr.heap.size [.int .i64 a.fl, .int .i64 a.fr, .int .i64 a.sl] := by rw [← hW1]; exact Row.new wr _ _
        have hkeep : ∀ p : Addr, p.block < w1.heap.size → W1.cell? p = wr.cell? p := fun p hp => by rw [← hW1]; exact World.cell?_alloc_lt wr _ p (Nat.lt_of_lt_of_le hp hb.size)
        have HK := Lib.hid hkeep
        have hzr := hb.size
        clear hkeep c0 c1 c2 hW1 row1 row3
        have row1 := R1.out.below hb1 (by omega)
        have row3 := R3.out.below hb1 (by omega)
        have R5 := Lib.hid row5
        unfold Row at row1 row3 row5
        go_cut [61] (fun s61 W => s61 = .bool (!dlvB a slots) ∧ W = W1)
        case first =>
          go_wp2_with (go_at_call 75; refine (below_any _ _ _).mono ?_; rintro e w' ⟨rfl, rfl⟩)
          all_goals
            go_meet
            exact ⟨by simp [dlvB, *], rfl⟩
        case rest =>
          obtain ⟨rfl, hwc⟩ := hcut
          subst wc
          cases hdl : dlvB a slots with
          | false =>
            have hst' := Hst.out
            rw [hdl] at hst'
            have hf2 := Lib.hid hst'
            clear hst'
            go_wp2
            go_ret
            exact ⟨ret_int (by rw [hfin.out, hf2.out]; rfl), hbw.trans (hb1.mono hbw.size)⟩
          | true =>
            have hst' := Hst.out
            rw [hdl] at hst'
            simp only [Bool.true_eq_false, if_false] at hst'
            have hf2 := Lib.hid hst'
            clear hst'
            go_upto_region 9 with fail
            go_cut [88] (fun s88 W => s88 = .bool (prevBadD (if k = 0 then none else dl[k - 1]?) a) ∧ Below W1.heap.size W1 W)
            case first =>
              have x1 := R1.out.below hb1 (by omega)
              have x3 := R3.out.below hb1 (by omega)
              have x1' := x1.ext (B := W1.heap.size) (by have := hb1.size; omega)
              have x3' := x3.ext (B := W1.heap.size) (by have := hb1.size; omega)
              have x5' := R5.out.ext (B := W1.heap.size) hz1
              by_cases hk0 : k = 0
              · subst hk0
                have hd0 : decide ((0 : Int) < ((0 : Nat) : Int)) = false := rfl
                refine wp_region_ext W1.heap.size (by kernel_rfl) (by kernel_rfl) ?_
                repeat (go_big_quiet_step (fail))
                refine wpQuiet_nil ?_
                rintro _ ⟨x, rfl⟩
                go_wp2_with fail
                go_meet
                exact ⟨rfl, x.below⟩
              · obtain ⟨j, rfl⟩ : ∃ j, k = j + 1 := ⟨k - 1, by omega⟩
                obtain ⟨p, hp⟩ := get_of_lt (l := dl) (k := j) (by rw [← HD.out]; omega)
                have hcp := Hcs.out j p hp
                have hx : ∀ (x : ExtW W1.heap.size W1) (j : Nat), x.val.cell? ⟨b, j, none⟩ = wr.cell? ⟨b, j, none⟩ := fun x j => (x.cell _ (Nat.lt_of_lt_of_le (Nat.lt_of_lt_of_le hbB hbw.size) hb1.size)).trans (HK.out _ (Nat.lt_of_lt_of_le hbB hbw.size))
                obtain ⟨p0, p1, p2⟩ := hcp
                have hki : decide ((0 : Int) < ((j + 1 : Nat) : Int)) = true := by simp
                have hw1 : IntKind.i64.wrap (((j + 1 : Nat) : Int) - 1) = (j : Int) := by rw [IntWalk.i64_in _ (by omega)]; omega
                have hjn : (j : Int) < (nd : Int) := by omega
                have HP := Lib.hid hp
                clear hp
                refine wp_region_ext_tail W1.heap.size 23 (by kernel_rfl) (by kernel_rfl) ?_
                simp only [List.take_succ_cons, List.take_zero, List.drop_succ_cons, List.drop_zero]
                repeat (go_big_quiet_step ((go_at_call 56; exact Calls.ext_same (cmp_any _ _ _))))
                refine wpQuiet_nil ?_
                rintro _ ⟨x, rfl⟩
                go_wp2_with (go_at_call 55; refine (or_any [cmpI p.sl a.sl, cmpI p.fl a.fl] _ 0 2 _ (by simp) (Row.ints (l := [cmpI p.sl a.sl, cmpI p.fl a.fl]) (Row.new _ [.int .i64 (cmpI p.sl a.sl), .int .i64 (cmpI p.fl a.fl)] _))).mono ?_; rintro e w' ⟨rfl, rfl⟩)
                go_meet
                exact ⟨by congr 1; rw [Bool.eq_iff_iff]; simp [prevBadD, HP.out, cmpD]; exact Iff.intro (fun h => decide_eq_true h) of_decide_eq_true, x.below.alloc x.below.size _⟩
            case rest =>
              obtain ⟨rfl, hb2⟩ := hcut
              have hb3 : Below w1.heap.size w1 wc := hb1.trans (hb2.mono hb1.size)
              cases hpv : prevBadD (if k = 0 then none else dl[k - 1]?) a with
              | true =>
                have hst' := hf2.out
                rw [hpv] at hst'
                have hf3 := Lib.hid hst'
                clear hst'
                go_wp2
                go_ret
                exact ⟨ret_int (by rw [hfin.out, hf3.out]; rfl), hbw.trans (hb3.mono hbw.size)⟩
              | false =>
                have hst' := hf2.out
                rw [hpv] at hst'
                simp only [Bool.false_eq_true, if_false] at hst'
                have hf3 := Lib.hid hst'
                clear hst'
                go_wp2
                go_roundw
                case rel => exact ⟨k + 1, by omega, by go_num, rfl, hb3, Lib.hid (by rw [hf3.out, if_neg (by omega), show k + 1 - 1 = k from rfl, Ha.out])⟩
                case measure => simp [intOf]; omega
      · have hfin2 := Lib.hid hfin.out
        go_wp2
        go_ret
        exact ⟨ret_int (by rw [hfin2.out, hst.out, List.drop_of_length_le (by rw [← HD.out]; omega)]; simp [dlvsGo]), hb0⟩

end Go.Proofs.Ytkdigdnacggknaa
