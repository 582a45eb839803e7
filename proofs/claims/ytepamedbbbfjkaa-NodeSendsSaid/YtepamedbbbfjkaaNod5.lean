/- Walk: Check of the reference of node. -/
import Derived.Test.YtepamedbbbfjkaaNodH
namespace Go.Proofs.Ytepamedbbbfjkaa
open Go.RowKit
open Nd

set_option maxRecDepth 100000 in
set_option maxHeartbeats 8000000 in
theorem rnCheck_any (fs : List Fl) (l : List Ho) (A D : Option Addr) (c cd : Nat) (w : World) (hA : Lies w w.heap.size 6 A (fs.map Fl.row)) (hf : fs.length ≤ 1000000) (hD : LiesH w w.heap.size D l) (hl : l.length ≤ 1000000) :
    Calls Try.prog 63 #[.slice A fs.length c, .slice D l.length cd] w fun e w' => e = .returned (.int .i64 (chkH fs (l.map Ho.d))) ∧ Below w.heap.size w w' := by
  obtain ⟨T, hT⟩ : ∃ T, T = chkH fs (l.map Ho.d) := ⟨_, rfl⟩
  rw [← hT]
  have con := rCheck_any fs A c w hA hf
  obtain ⟨n, hn⟩ : ∃ n, n = l.length := ⟨_, rfl⟩
  rw [← hn] at hl ⊢
  have HL := Lib.hid hn
  obtain ⟨m, hm⟩ : ∃ m, m = fs.length := ⟨_, rfl⟩
  have HA := Lib.hid (fun W (h : Below w.heap.size w W) => Lies.later hA h)
  have HF := Lib.hid (fun x W (h : Below w.heap.size w W) => rfind_any fs x A c W (HA.out W h) hf)
  rw [← hm] at hf con HF ⊢
  have HD := Lib.hid (fun W (h : Below w.heap.size w W) => LiesH.later hD h)
  clear hn hm hA hD
  obtain ⟨⟨ci, ce⟩, hce⟩ : ∃ R, chkF fs = R := ⟨_, rfl⟩
  rw [hce] at con
  dsimp only at con
  by_cases he : ce = 0
  case neg =>
    have HE : Hid (T = 1) := Lib.hid (by rw [hT]; unfold chkH; rw [if_neg (by rw [hce]; exact fun h => he h.1)])
    have he' : (ce != 0) = true := by simpa using he
    have Con := Lib.hid con
    clear con hce hT he
    go_enter Try.func63, Try.ntmps63
    go_wp2_with (go_at_call 73; (with_reducible refine Con.out.mono ?_); rintro e w2 ⟨rfl, hb2⟩)
    go_ret
    exact ⟨ret_int (by rw [HE.out]), hb2⟩
  subst he
  have HT : Hid (T = if hdGo fs none (l.map Ho.d) = true then 0 else 1) := Lib.hid (by rw [hT]; unfold chkH; rw [hce]; simp)
  have Con := Lib.hid con
  clear con hce hT
  go_enter Try.func63, Try.ntmps63
  go_wp2_with (go_at_call 73; (with_reducible refine Con.out.mono ?_); rintro e w2 ⟨rfl, hb2⟩)
  go_loopw [7] (fun i wr => ∃ (k : Nat), k ≤ n ∧ i = .int .i64 k ∧ Below w.heap.size w wr ∧ Hid (T = if hdGo fs (prevH l k) ((l.map Ho.d).drop k) = true then 0 else 1)) (fun i _ => n - (intOf i).toNat)
  case atStart => exact ⟨0, Nat.zero_le _, rfl, hb2, Lib.hid (by rw [HT.out]; rfl)⟩
  case round =>
    clear hb2
    obtain ⟨k, hk, rfl, hb, hst⟩ := hrel
    by_cases hlt : k < n
    case neg =>
      have hf : Hid (T = 0) := Lib.hid (by rw [hst.out, List.drop_of_length_le (by rw [List.length_map, ← HL.out]; omega)]; rfl)
      clear hst
      go_wp2_with fail
      go_ret
      exact ⟨ret_int (by rw [hf.out]), hb⟩
    obtain ⟨a, ha⟩ := get_of_lt (l := l) (k := k) (by rw [← HL.out]; exact hlt)
    obtain ⟨b, off, rfl, hbB, hcs⟩ := (HD.out _ hb).1.at_ ha
    have HI := Lib.hid (fun W (h : Below w.heap.size w W) => (HD.out W h).inn ha)
    have hst' : Hid (T = if (hdB fs (prevH l k) a.d && akGo none a.ak && hdGo fs (prevH l (k + 1)) ((l.map Ho.d).drop (k + 1))) = true then 0 else 1) := Lib.hid (by rw [hst.out, map_drop_d ha, prevH_succ ha]; rfl)
    clear hst
    obtain ⟨M, hM⟩ : ∃ M, M = wr.heap.size := ⟨_, rfl⟩
    have HMle : Hid (M ≤ wr.heap.size) := Lib.hid (by rw [hM]; exact Nat.le_refl _)
    have hbM : b < M := by rw [hM]; exact hbB
    have Hcs : Hid (∀ j p, l[j]? = some p → ∀ (x : ExtW M wr), x.val.cell? ⟨b, off + j * 3, none⟩ = some (.int .i64 p.fl)) := Lib.hid (fun j p hp x => (x.cell _ hbM).trans (by have := hcs j p hp 0 _ rfl; simpa using this))
    have HB : Hid (∀ W, Below M wr W → Below w.heap.size w W ∧ W.cell? ⟨b, off + k * 3 + 2, none⟩ = some (.slice a.A a.ak.length a.c)) := Lib.hid (fun W h => ⟨hb.trans (h.mono (by rw [hM]; exact hb.size)), (h.cell (p := ⟨b, off + k * 3 + 2, none⟩) hbM).trans (hcs k a ha 2 _ rfl)⟩)
    have x0 : ∀ (x : ExtW M wr), x.val.cell? ⟨b, off + k * 3, none⟩ = some (.int .i64 a.fl) := Hcs.out k a ha
    have x1 : ∀ (x : ExtW M wr), x.val.cell? ⟨b, off + k * 3 + 1, none⟩ = some (.int .i64 a.fr) := fun x => (x.cell _ hbM).trans (hcs k a ha 1 _ rfl)
    have HFM := Lib.hid hM
    clear hcs hM
    go_upto_region 7 with fail
    obtain ⟨V, hV0⟩ : ∃ V, V = !hdB fs (prevH l k) a.d := ⟨_, rfl⟩
    go_cut [64] (fun s55 W => s55 = .bool V ∧ Below M wr W)
    case first =>
      have HV : Hid (V = !(decide (0 ≤ findF fs a.fl) && upB (prevH l k) a.d && decide (0 ≤ a.fr) && decide (a.fr ≤ 1073741824))) := Lib.hid (by rw [hV0, hdB_eq]; rfl)
      have Con := Lib.hid (fun (x : ExtW M wr) => HF.out a.fl x.val (HB.out _ x.below).1)
      clear hst' hV0
      generalize findF fs a.fl = F at HV Con
      have HV' : Hid (V = !(decide (0 ≤ F) && upB (prevH l k) a.d && decide (0 ≤ a.fr) && decide (a.fr ≤ 1073741824))) := HV
      clear HV
      have HV := HV'
      clear HV'
      by_cases e1 : F < 0
      · have d1 : decide (F < 0) = true := decide_eq_true e1
        have hV : V = true := by rw [HV.out]; simp [e1]
        refine wp_region_ext M (by kernel_rfl) (by kernel_rfl) ?_
        repeat (go_big_quiet_step ((go_at_call 37; exact Calls.ext_same (Con.out _))))
        refine wpQuiet_nil ?_
        rintro _ ⟨x, rfl⟩
        go_wp2_with fail
        go_meet
        exact ⟨by rw [hV], x.below⟩
      have d1 : decide (F < 0) = false := decide_eq_false e1
      by_cases hk0 : k = 0
      · subst hk0
        simp only [Nat.zero_mul, Nat.add_zero] at x0 x1
        have d2 : decide ((0 : Int) < ((0 : Nat) : Int)) = false := rfl
        by_cases e3 : a.fr < 0
        · have d3 : decide (a.fr < 0) = true := decide_eq_true e3
          have hV : V = true := by rw [HV.out]; simp [e3]
          refine wp_region_ext M (by kernel_rfl) (by kernel_rfl) ?_
          repeat (go_big_quiet_step ((go_at_call 37; exact Calls.ext_same (Con.out _))))
          refine wpQuiet_nil ?_
          rintro _ ⟨x, rfl⟩
          go_wp2_with fail
          go_meet
          exact ⟨by rw [hV], x.below⟩
        have d3 : decide (a.fr < 0) = false := decide_eq_false e3
        by_cases e4 : 1073741824 < a.fr
        · have d4 : decide (1073741824 < a.fr) = true := decide_eq_true e4
          have hV : V = true := by rw [HV.out]; simp [e4]
          refine wp_region_ext M (by kernel_rfl) (by kernel_rfl) ?_
          repeat (go_big_quiet_step ((go_at_call 37; exact Calls.ext_same (Con.out _))))
          refine wpQuiet_nil ?_
          rintro _ ⟨x, rfl⟩
          go_wp2_with fail
          go_meet
          exact ⟨by rw [hV], x.below⟩
        have d4 : decide (1073741824 < a.fr) = false := decide_eq_false e4
        have hV : V = false := by rw [HV.out]; rw [prevH_zero]; simp [upB]; omega
        refine wp_region_ext M (by kernel_rfl) (by kernel_rfl) ?_
        repeat (go_big_quiet_step ((go_at_call 37; exact Calls.ext_same (Con.out _))))
        refine wpQuiet_nil ?_
        rintro _ ⟨x, rfl⟩
        go_wp2_with fail
        go_meet
        exact ⟨by rw [hV], x.below⟩
      obtain ⟨j, rfl⟩ : ∃ j, k = j + 1 := ⟨k - 1, by omega⟩
      obtain ⟨p, hp⟩ := get_of_lt (l := l) (k := j) (by rw [← HL.out]; omega)
      have hpv : prevH l (j + 1) = some p.d := prevH_succ hp
      have p0 := Hcs.out j p hp
      have d2 : decide ((0 : Int) < ((j + 1 : Nat) : Int)) = true := by simp
      have hw1 : IntKind.i64.wrap (((j + 1 : Nat) : Int) - 1) = (j : Int) := by rw [IntWalk.i64_in _ (by omega)]; omega
      have hjn : j < n := by omega
      by_cases e2 : a.fl ≤ p.fl
      · have d5 : decide (a.fl ≤ p.fl) = true := decide_eq_true e2
        have hV : V = true := by rw [HV.out, hpv, show upB (some p.d) a.d = false from decide_eq_false (by show ¬ p.fl < a.fl; omega)]; simp
        refine wp_region_ext M (by kernel_rfl) (by kernel_rfl) ?_
        repeat (go_big_quiet_step ((go_at_call 37; exact Calls.ext_same (Con.out _))))
        refine wpQuiet_nil ?_
        rintro _ ⟨x, rfl⟩
        go_wp2_with fail
        go_meet
        exact ⟨by rw [hV], x.below⟩
      have d5 : decide (a.fl ≤ p.fl) = false := decide_eq_false e2
      by_cases e3 : a.fr < 0
      · have d3 : decide (a.fr < 0) = true := decide_eq_true e3
        have hV : V = true := by rw [HV.out]; simp [e3]
        refine wp_region_ext M (by kernel_rfl) (by kernel_rfl) ?_
        repeat (go_big_quiet_step ((go_at_call 37; exact Calls.ext_same (Con.out _))))
        refine wpQuiet_nil ?_
        rintro _ ⟨x, rfl⟩
        go_wp2_with fail
        go_meet
        exact ⟨by rw [hV], x.below⟩
      have d3 : decide (a.fr < 0) = false := decide_eq_false e3
      by_cases e4 : 1073741824 < a.fr
      · have d4 : decide (1073741824 < a.fr) = true := decide_eq_true e4
        have hV : V = true := by rw [HV.out]; simp [e4]
        refine wp_region_ext M (by kernel_rfl) (by kernel_rfl) ?_
        repeat (go_big_quiet_step ((go_at_call 37; exact Calls.ext_same (Con.out _))))
        refine wpQuiet_nil ?_
        rintro _ ⟨x, rfl⟩
        go_wp2_with fail
        go_meet
        exact ⟨by rw [hV], x.below⟩
      have d4 : decide (1073741824 < a.fr) = false := decide_eq_false e4
      have hV : V = false := by rw [HV.out]; rw [hpv, show upB (some p.d) a.d = true from decide_eq_true (by show p.fl < a.fl; omega)]; simp; omega
      refine wp_region_ext M (by kernel_rfl) (by kernel_rfl) ?_
      repeat (go_big_quiet_step ((go_at_call 37; exact Calls.ext_same (Con.out _))))
      refine wpQuiet_nil ?_
      rintro _ ⟨x, rfl⟩
      go_wp2_with fail
      go_meet
      exact ⟨by rw [hV], x.below⟩
    case rest =>
      obtain ⟨rfl, hbc⟩ := hcut
      cases hd : hdB fs (prevH l k) a.d with
      | false =>
        have hV : V = true := by rw [hV0, hd]; rfl
        have hfin : Hid (T = 1) := Lib.hid (by rw [hst'.out, hd]; rfl)
        subst hV
        clear hst' hV0
        go_wp2_with fail
        go_ret
        exact ⟨ret_int (by rw [hfin.out]), (HB.out _ hbc).1⟩
      | true =>
        have hV : V = false := by rw [hV0, hd]; rfl
        have HT2 : Hid (T = if (akGo none a.ak && hdGo fs (prevH l (k + 1)) ((l.map Ho.d).drop (k + 1))) = true then 0 else 1) := Lib.hid (by rw [hst'.out, hd]; rfl)
        subst hV
        clear hst' hV0 hd
        obtain ⟨q, hq⟩ : ∃ q, q = a.ak.length := ⟨_, rfl⟩
        have HQ := Lib.hid hq
        have hqm : q ≤ 1000000 := by rw [hq]; exact (HI.out _ (HB.out _ hbc).1).2
        have rc := (HB.out _ hbc).2
        obtain ⟨AA, hAA⟩ : ∃ AA, AA = a.A := ⟨_, rfl⟩
        rw [← hq, ← hAA] at rc
        have HI2 : Hid (∀ W, Below w.heap.size w W → LiesI W W.heap.size AA a.ak) := Lib.hid (fun W h => by rw [hAA]; exact (HI.out W h).1)
        have HBq : Hid (∀ W, Below M wr W → Below w.heap.size w W ∧ W.cell? ⟨b, off + k * 3 + 2, none⟩ = some (.slice AA q a.c)) := Lib.hid (by rw [hq, hAA]; exact HB.out)
        clear hq hAA HI HB
        go_wp2_with fail
        go_loopw [8] (fun i wi => ∃ (j : Nat), j ≤ q ∧ i = .int .i64 j ∧ Below M wr wi ∧ Hid (T = if (akGo (prevI a.ak j) (a.ak.drop j) && hdGo fs (prevH l (k + 1)) ((l.map Ho.d).drop (k + 1))) = true then 0 else 1)) (fun i _ => q - (intOf i).toNat)
        case atStart => exact ⟨0, Nat.zero_le _, rfl, hbc, Lib.hid (by rw [HT2.out]; rfl)⟩
        case round =>
          clear hbc rc
          obtain ⟨j, hj, rfl, hbi, hsi⟩ := hrel
          have rc := (HBq.out _ hbi).2
          skip
          by_cases hjq : j < q
          case neg =>
            have HT3 : Hid (T = if hdGo fs (prevH l (k + 1)) ((l.map Ho.d).drop (k + 1)) = true then 0 else 1) := Lib.hid (by rw [hsi.out, List.drop_of_length_le (by rw [← HQ.out]; omega)]; rfl)
            clear hsi
            go_wp2_with fail
            go_roundw
            case rel => exact ⟨k + 1, by omega, by go_num, (HBq.out _ hbi).1, HT3⟩
            case measure => simp [intOf]; omega
          obtain ⟨y, hy⟩ := get_of_lt (l := a.ak) (k := j) (by rw [← HQ.out]; exact hjq)
          obtain ⟨ib, ioff, rfl, hibB, hic⟩ := (HI2.out _ (HBq.out _ hbi).1).at_ hy
          have ic := hic j y hy
          have hsi' : Hid (T = if (decide (0 ≤ y) && decide (y < 32) && upI (prevI a.ak j) y && akGo (prevI a.ak (j + 1)) (a.ak.drop (j + 1)) && hdGo fs (prevH l (k + 1)) ((l.map Ho.d).drop (k + 1))) = true then 0 else 1) := Lib.hid (by rw [hsi.out, drop_of_get hy, prevI_succ hy, akGo_cons])
          clear hsi
          by_cases y1 : 0 ≤ y ∧ y < 32
          case neg =>
            have hfin : Hid (T = 1) := Lib.hid (by rw [hsi'.out, if_neg]; intro h; simp only [Bool.and_eq_true, decide_eq_true_eq] at h; exact y1 ⟨h.1.1.1.1, h.1.1.1.2⟩)
            clear hsi'
            by_cases y0 : 0 ≤ y
            · have d1 : decide (0 ≤ y) = true := decide_eq_true y0
              have d2 : decide (y < 32) = false := decide_eq_false (by omega)
              have d3 : decide (y < 0) = false := decide_eq_false (by omega)
              have d4 : decide (32 ≤ y) = true := decide_eq_true (by omega)
              clear y1
              go_wp2_with fail
              go_ret
              exact ⟨ret_int (by rw [hfin.out]), (HBq.out _ hbi).1⟩
            · have d1 : decide (0 ≤ y) = false := decide_eq_false y0
              have d3 : decide (y < 0) = true := decide_eq_true (by omega)
              clear y1
              go_wp2_with fail
              go_ret
              exact ⟨ret_int (by rw [hfin.out]), (HBq.out _ hbi).1⟩
          obtain ⟨y0, y2⟩ := y1
          have d1 : decide (0 ≤ y) = true := decide_eq_true y0
          have d2 : decide (y < 32) = true := decide_eq_true y2
          have d3 : decide (y < 0) = false := decide_eq_false (by omega)
          have d4 : decide (32 ≤ y) = false := decide_eq_false (by omega)
          by_cases hj0 : j = 0
          · subst hj0
            have hnx : Hid (T = if (akGo (prevI a.ak (0 + 1)) (a.ak.drop (0 + 1)) && hdGo fs (prevH l (k + 1)) ((l.map Ho.d).drop (k + 1))) = true then 0 else 1) := Lib.hid (by rw [hsi'.out, d1, d2, prevI_zero]; rfl)
            simp only [Nat.add_zero] at ic
            have d5 : decide ((0 : Int) < ((0 : Nat) : Int)) = false := rfl
            clear hsi' hic
            go_wp2_with fail
            go_roundw
            case rel => exact ⟨0 + 1, by omega, by go_num, hbi, hnx⟩
            case measure => simp [intOf]; omega
          obtain ⟨i, rfl⟩ : ∃ i, j = i + 1 := ⟨j - 1, by omega⟩
          obtain ⟨z, hz⟩ := get_of_lt (l := a.ak) (k := i) (by rw [← HQ.out]; omega)
          have id := hic i z hz
          have hpz : prevI a.ak (i + 1) = some z := prevI_succ hz
          have d5 : decide ((0 : Int) < ((i + 1 : Nat) : Int)) = true := by simp
          have hw2 : IntKind.i64.wrap (((i + 1 : Nat) : Int) - 1) = (i : Int) := by rw [IntWalk.i64_in _ (by omega)]; omega
          have hiq : i < q := by omega
          by_cases hup : z < y
          · have d6 : decide (y ≤ z) = false := decide_eq_false (by omega)
            have hnx : Hid (T = if (akGo (prevI a.ak (i + 1 + 1)) (a.ak.drop (i + 1 + 1)) && hdGo fs (prevH l (k + 1)) ((l.map Ho.d).drop (k + 1))) = true then 0 else 1) := Lib.hid (by rw [hsi'.out, d1, d2, hpz]; rw [show upI (some z) y = true from decide_eq_true hup]; rfl)
            clear hsi' hic hy hz
            go_wp2_with fail
            go_roundw
            case rel => exact ⟨i + 1 + 1, by omega, by go_num, hbi, hnx⟩
            case measure => simp [intOf]; omega
          · have d6 : decide (y ≤ z) = true := decide_eq_true (by omega)
            have hfin : Hid (T = 1) := Lib.hid (by rw [hsi'.out, d1, d2, hpz]; rw [show upI (some z) y = false from decide_eq_false hup]; rfl)
            clear hsi' hic hy hz
            go_wp2_with fail
            go_ret
            exact ⟨ret_int (by rw [hfin.out]), (HBq.out _ hbi).1⟩
end Go.Proofs.Ytepamedbbbfjkaa
