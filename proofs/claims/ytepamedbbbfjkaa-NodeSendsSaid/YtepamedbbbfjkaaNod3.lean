/- Walks: Check of package flow, and of its reference. -/
import Derived.Test.YtepamedbbbfjkaaNod2
namespace Go.Proofs.Ytepamedbbbfjkaa
open Go.RowKit
open Nd
theorem below_drewN {B : Nat} {a w : World} (h : Below B a w) (n : Nat) : Below B a (w.drewN n) := h.trans ⟨rfl, rfl, rfl, Nat.le_refl _, fun _ _ => rfl⟩

set_option maxRecDepth 100000 in
set_option maxHeartbeats 2000000 in
theorem fCheck_any (l : List Fl) (A : Option Addr) (c : Nat) (w : World) (hA : Lies w w.heap.size 6 A (l.map Fl.row)) (hl : l.length ≤ 1000000) :
    Calls Try.prog 42 #[.int .i64 32, .slice A l.length c] w fun e w' => e = .returned (.tuple #[.int .i64 (chkF l).1, .int .i64 (chkF l).2]) ∧ Below w.heap.size w w' := by
  obtain ⟨T, hT⟩ : ∃ T, T = chkF l := ⟨_, rfl⟩
  rw [← hT]
  obtain ⟨n, hn⟩ : ∃ n, n = l.length := ⟨_, rfl⟩
  rw [← hn] at hl ⊢
  by_cases h16 : 16 < n
  · have HE : Hid (T = (-1, 8)) := Lib.hid (by rw [hT]; unfold chkF; rw [if_pos (by omega)])
    clear hn hT hA
    go_enter Try.func42, Try.ntmps42
    go_wp2_with (fail)
    go_ret2
    exact ⟨by rw [HE.out]; rfl, Below.refl _ _⟩
  have HT : Hid (T = chkGo none 0 l) := Lib.hid (by rw [hT]; unfold chkF; rw [if_neg (by omega)])
  have HN := Lib.hid hn
  clear hn hT
  have h17 : decide ((16 : Int) < (n : Int)) = false := decide_eq_false (by omega)
  go_enter Try.func42, Try.ntmps42
  go_wp2_with (fail)
  go_loopw [20] (fun i wr => ∃ (k : Nat), k ≤ n ∧ i = .int .i64 k ∧ Below w.heap.size w wr ∧ Hid (T = chkGo (if k = 0 then none else l[k - 1]?) k (l.drop k))) (fun i _ => n - (intOf i).toNat)
  case atStart => exact ⟨0, Nat.zero_le _, rfl, Below.refl _ _, Lib.hid (by rw [HT.out]; rfl)⟩
  case round =>
    obtain ⟨k, hk, rfl, hb, hst⟩ := hrel
    by_cases hlt : k < n
    · obtain ⟨a, ha⟩ := get_of_lt (l := l) (k := k) (by rw [← HN.out]; exact hlt)
      obtain ⟨b, off, rfl, hbB, hcs⟩ := (Lies.below hA hb).at_ ha
      have Hcs := Lib.hid hcs
      have c0 := hcs k a ha 0 _ rfl
      have c1 := hcs k a ha 1 _ rfl
      have c2 := hcs k a ha 2 _ rfl
      have c3 := hcs k a ha 3 _ rfl
      have c4 := hcs k a ha 4 _ rfl
      have c5 := hcs k a ha 5 _ rfl
      simp only [Nat.add_zero] at c0 c1 c2 c3 c4 c5
      have hst' : Hid (T = if fault a = 0 then (if notUp (if k = 0 then none else l[k - 1]?) a = true then ((k : Int), 5) else chkGo (some a) ((k : Int) + 1) (l.drop (k + 1))) else ((k : Int), fault a)) := Lib.hid (by rw [hst.out, drop_of_get ha]; rfl)
      have hnext : Hid (some a = (if k + 1 = 0 then none else l[k + 1 - 1]?)) := Lib.hid (by rw [if_neg (by omega), Nat.add_sub_cancel, ha])
      have con := fun W => fcheck_any a W
      by_cases hf : fault a = 0
      case neg =>
        have HE : Hid (T = ((k : Int), fault a)) := Lib.hid (by rw [hst'.out, if_neg hf])
        generalize fault a = F at *
        have hf' : (F != 0) = true := by simpa using hf
        clear hcs ha hst hst' hnext hf
        go_wp2_with (go_at_call 66; (with_reducible refine (con _).mono ?_); rintro e w2 ⟨rfl, hb2⟩)
        go_ret2
        exact ⟨by rw [HE.out]; rfl, (hb.alloc hb.size _).trans (hb2.mono (by simp; have := hb.size; omega))⟩
      rw [hf] at con
      have HC := Lib.hid con
      have hst2 : Hid (T = if notUp (if k = 0 then none else l[k - 1]?) a = true then ((k : Int), 5) else chkGo (if k + 1 = 0 then none else l[k + 1 - 1]?) ((k + 1 : Nat) : Int) (l.drop (k + 1))) := Lib.hid (by rw [hst'.out, if_pos hf, ← hnext.out]; rfl)
      clear con hst' hnext hst hf
      have ROW := Lib.hid (fun W (hW : Below (wr.heap.size + 1) (wr.alloc (.cells #[.int .i64 a.id, .int .i64 a.fr, .int .i64 a.tn, .int .i64 a.pe, .int .i64 a.ph, .int .i64 a.dl] 33)) W) => (Row.new wr [.int .i64 a.id, .int .i64 a.fr, .int .i64 a.tn, .int .i64 a.pe, .int .i64 a.ph, .int .i64 a.dl] 33).below hW (by omega))
      have HB2 := Lib.hid (fun W (hW : Below (wr.heap.size + 1) (wr.alloc (.cells #[.int .i64 a.id, .int .i64 a.fr, .int .i64 a.tn, .int .i64 a.pe, .int .i64 a.ph, .int .i64 a.dl] 33)) W) => (show Below w.heap.size w W ∧ Below wr.heap.size wr W from ⟨((hb.alloc hb.size _).trans (hW.mono (by have := hb.size; omega))), ((Below.refl _ _).alloc (Nat.le_refl _) _).trans (hW.mono (by omega))⟩))
      by_cases hk0 : k = 0
      · subst hk0
        simp only [Nat.zero_mul, Nat.add_zero] at c0 c1 c2 c3 c4 c5
        have hst3 : Hid (T = chkGo (if 0 + 1 = 0 then none else l[0 + 1 - 1]?) ((0 + 1 : Nat) : Int) (l.drop (0 + 1))) := Lib.hid (by rw [hst2.out, if_neg (by simp [notUp])])
        have hd0 : decide ((0 : Int) < ((0 : Nat) : Int)) = false := rfl
        clear hst2 hcs ha
        go_wp2_with (go_at_call 66; (with_reducible refine (HC.out _).mono ?_); rintro e w2 ⟨rfl, hb2⟩)
        have hB := (HB2.out _ (by simpa using hb2)).1
        go_quiet (fail)
        go_wp2_with fail
        go_roundw
        case rel => exact ⟨0 + 1, by omega, by go_num, by first | exact hB | exact below_drewN hB _, hst3⟩
        case measure => simp [intOf]; omega
      · obtain ⟨j, rfl⟩ : ∃ j, k = j + 1 := ⟨k - 1, by omega⟩
        obtain ⟨p, hp⟩ := get_of_lt (l := l) (k := j) (by rw [← HN.out]; omega)
        have hp0 := Hcs.out j p hp 0 _ rfl
        simp only [Nat.add_zero] at hp0
        have hki : decide ((0 : Int) < ((j + 1 : Nat) : Int)) = true := by simp
        have hw1 : IntKind.i64.wrap (((j + 1 : Nat) : Int) - 1) = (j : Int) := by rw [IntWalk.i64_in _ (by omega)]; omega
        have hjn : j < n := by omega
        by_cases hup : a.id ≤ p.id
        · have HE : Hid (T = (((j + 1 : Nat) : Int), 5)) := Lib.hid (by rw [hst2.out, if_pos (by rw [if_neg (by omega), Nat.add_sub_cancel, hp]; simpa [notUp] using hup)])
          clear hst2 hcs ha hp
          go_wp2_with (go_at_call 66; (with_reducible refine (HC.out _).mono ?_); rintro e w2 ⟨rfl, hb2⟩)
          have hB := HB2.out _ (by simpa using hb2)
          have rw2 := ROW.out _ (by simpa using hb2)
          have q0 : w2.cell? ⟨b, off + j * 6, none⟩ = some (.int .i64 p.id) := (hB.2.cell (p := ⟨b, off + j * 6, none⟩) (Nat.lt_of_lt_of_le hbB hb.size)).trans hp0
          have q1 : w2.cell? ⟨b, off + (j + 1) * 6, none⟩ = some (.int .i64 a.id) := (hB.2.cell (p := ⟨b, off + (j + 1) * 6, none⟩) (Nat.lt_of_lt_of_le hbB hb.size)).trans c0
          unfold Row at rw2
          clear c0 c1 c2 c3 c4 c5 hp0
          go_quiet (fail)
          go_wp2_with fail
          go_ret2
          exact ⟨by rw [HE.out]; rfl, by first | exact hB.1 | exact below_drewN hB.1 _⟩
        · have hst3 := Lib.hid (hst2.out.trans (if_neg (by rw [if_neg (by omega), Nat.add_sub_cancel, hp]; simpa [notUp] using hup)))
          have hup' : p.id < a.id := by omega
          clear hst2 hcs ha hp hup
          go_wp2_with (go_at_call 66; (with_reducible refine (HC.out _).mono ?_); rintro e w2 ⟨rfl, hb2⟩)
          have hB := HB2.out _ (by simpa using hb2)
          have rw2 := ROW.out _ (by simpa using hb2)
          have q0 : w2.cell? ⟨b, off + j * 6, none⟩ = some (.int .i64 p.id) := (hB.2.cell (p := ⟨b, off + j * 6, none⟩) (Nat.lt_of_lt_of_le hbB hb.size)).trans hp0
          have q1 : w2.cell? ⟨b, off + (j + 1) * 6, none⟩ = some (.int .i64 a.id) := (hB.2.cell (p := ⟨b, off + (j + 1) * 6, none⟩) (Nat.lt_of_lt_of_le hbB hb.size)).trans c0
          unfold Row at rw2
          clear c0 c1 c2 c3 c4 c5 hp0
          go_quiet (fail)
          go_wp2_with fail
          go_roundw
          case rel => exact ⟨j + 1 + 1, by omega, by go_num, by first | exact hB.1 | exact below_drewN hB.1 _, hst3⟩
          case measure => simp [intOf]; omega
    · have HE : Hid (T = (-1, 0)) := Lib.hid (by rw [hst.out, List.drop_of_length_le (by rw [← HN.out]; omega)]; rfl)
      go_wp2_with fail
      go_ret2
      exact ⟨by rw [HE.out]; rfl, hb⟩

set_option maxRecDepth 100000 in
set_option maxHeartbeats 2000000 in
theorem rCheck_any (l : List Fl) (A : Option Addr) (c : Nat) (w : World) (hA : Lies w w.heap.size 6 A (l.map Fl.row)) (hl : l.length ≤ 1000000) :
    Calls Try.prog 73 #[.int .i64 32, .slice A l.length c] w fun e w' => e = .returned (.tuple #[.int .i64 (chkF l).1, .int .i64 (chkF l).2]) ∧ Below w.heap.size w w' := by
  obtain ⟨T, hT⟩ : ∃ T, T = chkF l := ⟨_, rfl⟩
  rw [← hT]
  obtain ⟨n, hn⟩ : ∃ n, n = l.length := ⟨_, rfl⟩
  rw [← hn] at hl ⊢
  have hin : inB 32 2 32 = true := by decide
  by_cases h16 : 16 < n
  · have HE : Hid (T = (-1, 8)) := Lib.hid (by rw [hT]; unfold chkF; rw [if_pos (by omega)])
    clear hn hT hA
    go_enter Try.func73, Try.ntmps73
    go_wp2_with (go_at_call 65; (with_reducible refine (in_any _ _ _ _).mono ?_); rintro e w' ⟨rfl, rfl⟩)
    go_ret2
    exact ⟨by rw [HE.out]; rfl, Below.refl _ _⟩
  have HT : Hid (T = chkGo none 0 l) := Lib.hid (by rw [hT]; unfold chkF; rw [if_neg (by omega)])
  have HN := Lib.hid hn
  clear hn hT
  have h17 : decide ((16 : Int) < (n : Int)) = false := decide_eq_false (by omega)
  go_enter Try.func73, Try.ntmps73
  go_wp2_with (go_at_call 65; (with_reducible refine (in_any _ _ _ _).mono ?_); rintro e w' ⟨rfl, rfl⟩)
  go_loopw [6] (fun i wr => ∃ (k : Nat), k ≤ n ∧ i = .int .i64 k ∧ Below w.heap.size w wr ∧ Hid (T = chkGo (if k = 0 then none else l[k - 1]?) k (l.drop k))) (fun i _ => n - (intOf i).toNat)
  case atStart => exact ⟨0, Nat.zero_le _, rfl, Below.refl _ _, Lib.hid (by rw [HT.out]; rfl)⟩
  case round =>
    obtain ⟨k, hk, rfl, hb, hst⟩ := hrel
    by_cases hlt : k < n
    · obtain ⟨a, ha⟩ := get_of_lt (l := l) (k := k) (by rw [← HN.out]; exact hlt)
      obtain ⟨b, off, rfl, hbB, hcs⟩ := (Lies.below hA hb).at_ ha
      have Hcs := Lib.hid hcs
      have c0 := hcs k a ha 0 _ rfl
      have c1 := hcs k a ha 1 _ rfl
      have c2 := hcs k a ha 2 _ rfl
      have c3 := hcs k a ha 3 _ rfl
      have c4 := hcs k a ha 4 _ rfl
      have c5 := hcs k a ha 5 _ rfl
      simp only [Nat.add_zero] at c0 c1 c2 c3 c4 c5
      have hst' : Hid (T = if fault a = 0 then (if notUp (if k = 0 then none else l[k - 1]?) a = true then ((k : Int), 5) else chkGo (some a) ((k : Int) + 1) (l.drop (k + 1))) else ((k : Int), fault a)) := Lib.hid (by rw [hst.out, drop_of_get ha]; rfl)
      have hnext : Hid (some a = (if k + 1 = 0 then none else l[k + 1 - 1]?)) := Lib.hid (by rw [if_neg (by omega), Nat.add_sub_cancel, ha])
      have con := fun W => rfault_any a W
      by_cases hf : fault a = 0
      case neg =>
        have HE : Hid (T = ((k : Int), fault a)) := Lib.hid (by rw [hst'.out, if_neg hf])
        generalize fault a = F at *
        have hf' : (F != 0) = true := by simpa using hf
        clear hcs ha hst hst' hnext hf
        go_wp2_with (go_at_call 64; (with_reducible refine (con _).mono ?_); rintro e w2 ⟨rfl, hb2⟩)
        go_ret2
        exact ⟨by rw [HE.out]; rfl, hb.trans (hb2.mono hb.size)⟩
      rw [hf] at con
      have HC := Lib.hid con
      have hst2 : Hid (T = if notUp (if k = 0 then none else l[k - 1]?) a = true then ((k : Int), 5) else chkGo (if k + 1 = 0 then none else l[k + 1 - 1]?) ((k + 1 : Nat) : Int) (l.drop (k + 1))) := Lib.hid (by rw [hst'.out, if_pos hf, ← hnext.out]; rfl)
      clear con hst' hnext hst hf
      have ROW := Lib.hid (fun W (hW : Below (wr.heap.size) wr W) => trivial)
      have HB2 := Lib.hid (fun W (hW : Below (wr.heap.size) wr W) => (show Below w.heap.size w W ∧ Below wr.heap.size wr W from ⟨hb.trans (hW.mono hb.size), hW⟩))
      by_cases hk0 : k = 0
      · subst hk0
        simp only [Nat.zero_mul, Nat.add_zero] at c0 c1 c2 c3 c4 c5
        have hst3 : Hid (T = chkGo (if 0 + 1 = 0 then none else l[0 + 1 - 1]?) ((0 + 1 : Nat) : Int) (l.drop (0 + 1))) := Lib.hid (by rw [hst2.out, if_neg (by simp [notUp])])
        have hd0 : decide ((0 : Int) < ((0 : Nat) : Int)) = false := rfl
        clear hst2 hcs ha
        go_wp2_with (go_at_call 64; (with_reducible refine (HC.out _).mono ?_); rintro e w2 ⟨rfl, hb2⟩)
        have hB := (HB2.out _ (by simpa using hb2)).1
        go_quiet (fail)
        go_wp2_with fail
        go_roundw
        case rel => exact ⟨0 + 1, by omega, by go_num, by first | exact hB | exact below_drewN hB _, hst3⟩
        case measure => simp [intOf]; omega
      · obtain ⟨j, rfl⟩ : ∃ j, k = j + 1 := ⟨k - 1, by omega⟩
        obtain ⟨p, hp⟩ := get_of_lt (l := l) (k := j) (by rw [← HN.out]; omega)
        have hp0 := Hcs.out j p hp 0 _ rfl
        simp only [Nat.add_zero] at hp0
        have hki : decide ((0 : Int) < ((j + 1 : Nat) : Int)) = true := by simp
        have hw1 : IntKind.i64.wrap (((j + 1 : Nat) : Int) - 1) = (j : Int) := by rw [IntWalk.i64_in _ (by omega)]; omega
        have hjn : j < n := by omega
        by_cases hup : a.id ≤ p.id
        · have HE : Hid (T = (((j + 1 : Nat) : Int), 5)) := Lib.hid (by rw [hst2.out, if_pos (by rw [if_neg (by omega), Nat.add_sub_cancel, hp]; simpa [notUp] using hup)])
          clear hst2 hcs ha hp
          go_wp2_with (go_at_call 64; (with_reducible refine (HC.out _).mono ?_); rintro e w2 ⟨rfl, hb2⟩)
          have hB := HB2.out _ (by simpa using hb2)
          have rw2 := ROW.out _ (by simpa using hb2)
          have q0 : w2.cell? ⟨b, off + j * 6, none⟩ = some (.int .i64 p.id) := (hB.2.cell (p := ⟨b, off + j * 6, none⟩) (Nat.lt_of_lt_of_le hbB hb.size)).trans hp0
          have q1 : w2.cell? ⟨b, off + (j + 1) * 6, none⟩ = some (.int .i64 a.id) := (hB.2.cell (p := ⟨b, off + (j + 1) * 6, none⟩) (Nat.lt_of_lt_of_le hbB hb.size)).trans c0
          clear rw2
          clear c0 c1 c2 c3 c4 c5 hp0
          go_quiet (fail)
          go_wp2_with fail
          go_ret2
          exact ⟨by rw [HE.out]; rfl, by first | exact hB.1 | exact below_drewN hB.1 _⟩
        · have hst3 := Lib.hid (hst2.out.trans (if_neg (by rw [if_neg (by omega), Nat.add_sub_cancel, hp]; simpa [notUp] using hup)))
          have hup' : p.id < a.id := by omega
          clear hst2 hcs ha hp hup
          go_wp2_with (go_at_call 64; (with_reducible refine (HC.out _).mono ?_); rintro e w2 ⟨rfl, hb2⟩)
          have hB := HB2.out _ (by simpa using hb2)
          have rw2 := ROW.out _ (by simpa using hb2)
          have q0 : w2.cell? ⟨b, off + j * 6, none⟩ = some (.int .i64 p.id) := (hB.2.cell (p := ⟨b, off + j * 6, none⟩) (Nat.lt_of_lt_of_le hbB hb.size)).trans hp0
          have q1 : w2.cell? ⟨b, off + (j + 1) * 6, none⟩ = some (.int .i64 a.id) := (hB.2.cell (p := ⟨b, off + (j + 1) * 6, none⟩) (Nat.lt_of_lt_of_le hbB hb.size)).trans c0
          clear rw2
          clear c0 c1 c2 c3 c4 c5 hp0
          go_quiet (fail)
          go_wp2_with fail
          go_roundw
          case rel => exact ⟨j + 1 + 1, by omega, by go_num, by first | exact hB.1 | exact below_drewN hB.1 _, hst3⟩
          case measure => simp [intOf]; omega
    · have HE : Hid (T = (-1, 0)) := Lib.hid (by rw [hst.out, List.drop_of_length_le (by rw [← HN.out]; omega)]; rfl)
      go_wp2_with fail
      go_ret2
      exact ⟨by rw [HE.out]; rfl, hb⟩
end Go.Proofs.Ytepamedbbbfjkaa
