/- Walks: package slices' stable sort of duties exchanges rows only: merging. -/
import Derived.Test.YtepamedbbbfjkaaSoD3
namespace Go.Proofs.Ytepamedbbbfjkaa
open Go.RowKit
open Nd

set_option maxRecDepth 100000 in
set_option maxHeartbeats 8000000 in
theorem sym3_any (z : Du → Du → Int) (fn : FuncId) (cb : Array Value) (l : List Du) (g c a0 m0 b0 : Nat) (w : World) (eg : ∀ args w, (callFunc fn args).run Try.prog w = .ok (.enter fn args) w)
    (hr : RowsAt w g 63 9 (l.map Du.row)) (h0 : a0 + 1 < m0) (h1 : m0 + 1 < b0) (h3 : b0 ≤ l.length) (hih : ∀ (l' : List Du) (a m b : Nat) (W : World), RowsAt W g 63 9 (l'.map Du.row) → a < m → m < b → b ≤ l'.length → b - a < b0 - a0 → l'.length ≤ 1000 → CmpD z fn cb g W →
      Calls Try.prog 76 #[.slice (some ⟨g, 0, none⟩) l'.length c, .int .i64 a, .int .i64 m, .int .i64 b, .func (.func fn) #[] cb] W fun e w' => e = .returned (.tuple #[]) ∧ Perms Du.row 63 9 W g l' w') (hl : l.length ≤ 1000) (hc : CmpD z fn cb g w) :
    Calls Try.prog 76 #[.slice (some ⟨g, 0, none⟩) l.length c, .int .i64 a0, .int .i64 m0, .int .i64 b0, .func (.func fn) #[] cb] w fun e w' => e = .returned (.tuple #[]) ∧ Perms Du.row 63 9 w g l w' := by
  obtain ⟨n, hn⟩ : ∃ n, n = l.length := ⟨_, rfl⟩
  rw [← hn] at h3 hl ⊢
  have HN := Lib.hid hn
  have HC := Lib.hid hc
  have HS := Lib.hid (Perms.start hr)
  clear hn hc hr
  have q1 : ((m0 : Int) - (a0 : Int) == 1) = false := by simp; omega
  have q2 : ((b0 : Int) - (m0 : Int) == 1) = false := by simp; omega
  have HI := Lib.hid hih
  clear hih
  obtain ⟨mid, hh0⟩ : ∃ h : Nat, h = (a0 + b0) / 2 := ⟨_, rfl⟩
  have hh1 : 2 * mid ≤ a0 + b0 := by omega
  have hh2 : a0 + b0 ≤ 2 * mid + 1 := by omega
  have hhe : Hid ((((a0 : Nat) : Int) + ((b0 : Nat) : Int)) / 2 = ((mid : Nat) : Int)) := Lib.hid (by omega)
  clear hh0
  obtain ⟨N, hN⟩ : ∃ N, N = mid + m0 := ⟨_, rfl⟩
  have hN1 : N ≤ mid + m0 := by omega
  have hN2 : mid + m0 ≤ N := by omega
  have hNe : Hid ((mid : Int) + (m0 : Int) = (N : Int)) := Lib.hid (by omega)
  obtain ⟨P, hP⟩ : ∃ P, P = N - 1 := ⟨_, rfl⟩
  have hP1 : P + 1 ≤ N := by omega
  have hP2 : N ≤ P + 1 := by omega
  have hPe : Hid ((N : Int) - 1 = (P : Int)) := Lib.hid (by omega)
  clear hN hP
  go_enter Try.func76, Try.ntmps76
  go_upto_region 25 with fail
  rw [hhe.out]
  go_upto_region 26 with fail
  rw [hNe.out]
  by_cases hmm : mid < m0
  · obtain ⟨s0, hs0⟩ : ∃ s0, s0 = N - b0 := ⟨_, rfl⟩
    have hs1 : s0 + b0 ≤ N := by omega
    have hs2 : N ≤ s0 + b0 := by omega
    have hse : Hid ((N : Int) - (b0 : Int) = (s0 : Int)) := Lib.hid (by omega)
    clear hs0
    go_wp2_with fail
    rw [hse.out, hPe.out]
    go_loopw [20, 21] (fun s1 s2 wr => ∃ (i j : Nat), a0 ≤ i ∧ i ≤ j ∧ j ≤ m0 ∧ j ≤ mid ∧ N ≤ b0 + i ∧ s1 = .int .i64 i ∧ s2 = .int .i64 j ∧ Hid (Perms Du.row 63 9 w g l wr)) (fun s1 s2 _ => (intOf s2).toNat - (intOf s1).toNat)
    case atStart => exact ⟨s0, mid, by omega, by omega, by omega, by omega, by omega, rfl, rfl, HS⟩
    case round =>
      clear HS
      obtain ⟨i, j, hi1, hi2, hi3, hi4, hi5, rfl, rfl, HP⟩ := hrel
      by_cases hlt : i < j
      · clear HI
        obtain ⟨h, hh0⟩ : ∃ h : Nat, h = (i + j) / 2 := ⟨_, rfl⟩
        have hk1 : 2 * h ≤ i + j := by omega
        have hk2 : i + j ≤ 2 * h + 1 := by omega
        have hke : Hid ((((i : Nat) : Int) + ((j : Nat) : Int)) / 2 = ((h : Nat) : Int)) := Lib.hid (by omega)
        clear hh0
        obtain ⟨Q, hQ⟩ : ∃ Q, Q = P - h := ⟨_, rfl⟩
        have hQn : Q < n := by omega
        have hhn : h < n := by omega
        have hw1 : IntKind.i64.wrap ((P : Int) - (h : Int)) = (Q : Int) := by rw [IntWalk.i64_in _ (by omega)]; omega
        clear hQ
        obtain ⟨hgr, l1, hp1, hr1⟩ := HP.out
        have hll : l1.length = n := by rw [HN.out]; exact hp1.length_eq
        obtain ⟨a, ha⟩ := get_of_lt (l := l1) (k := Q) (by omega)
        obtain ⟨b, hb⟩ := get_of_lt (l := l1) (k := h) (by omega)
        obtain ⟨M, hM⟩ : ∃ M, M = wr.heap.size := ⟨_, rfl⟩
        have HgM : Hid (g < M) := Lib.hid (by rw [hM]; exact hr1.lt)
        have HML : Hid (M ≤ wr.heap.size) := Lib.hid (by omega)
        have HcA := Lib.hid (fun (j : Nat) (u : Value) (hu : a.row[j]? = some u) => hr1.cell (map_get ha) hu)
        have HcB := Lib.hid (fun (j : Nat) (u : Value) (hu : b.row[j]? = some u) => hr1.cell (map_get hb) hu)
        have HR1 := Lib.hid hr1
        have HA := Lib.hid ha
        have HB := Lib.hid hb
        have HG := Lib.hid hgr
        have HPm := Lib.hid hp1
        have HM := Lib.hid hM
        clear hr1 ha hb hgr hp1 hll hM
        go_upto_region 35 with fail
        rw [hke.out]
        have Con := Lib.hid (fun (x : ExtW M wr) => HC.out x.val (grown_trans HG.out (grown_below (by rw [← HM.out]; exact x.below) _)) a b)
        have ac0 : ∀ (x : ExtW M wr), x.val.cell? ⟨g, Q * 9, none⟩ = some (.int .i64 a.cs) := fun x => (x.cell _ HgM.out).trans (HcA.out 0 _ rfl)
        have ac1 : ∀ (x : ExtW M wr), x.val.cell? ⟨g, Q * 9 + 1, none⟩ = some (.int .i64 a.co) := fun x => (x.cell _ HgM.out).trans (HcA.out 1 _ rfl)
        have ac2 : ∀ (x : ExtW M wr), x.val.cell? ⟨g, Q * 9 + 2, none⟩ = some (.int .i64 a.cf) := fun x => (x.cell _ HgM.out).trans (HcA.out 2 _ rfl)
        have ac3 : ∀ (x : ExtW M wr), x.val.cell? ⟨g, Q * 9 + 3, none⟩ = some (.int .i64 a.ct) := fun x => (x.cell _ HgM.out).trans (HcA.out 3 _ rfl)
        have ac4 : ∀ (x : ExtW M wr), x.val.cell? ⟨g, Q * 9 + 4, none⟩ = some (.int .i64 a.cl) := fun x => (x.cell _ HgM.out).trans (HcA.out 4 _ rfl)
        have ac5 : ∀ (x : ExtW M wr), x.val.cell? ⟨g, Q * 9 + 5, none⟩ = some (.bool a.se) := fun x => (x.cell _ HgM.out).trans (HcA.out 5 _ rfl)
        have ac6 : ∀ (x : ExtW M wr), x.val.cell? ⟨g, Q * 9 + 6, none⟩ = some (.bool a.ex) := fun x => (x.cell _ HgM.out).trans (HcA.out 6 _ rfl)
        have ac7 : ∀ (x : ExtW M wr), x.val.cell? ⟨g, Q * 9 + 7, none⟩ = some (.int .i64 a.fi) := fun x => (x.cell _ HgM.out).trans (HcA.out 7 _ rfl)
        have ac8 : ∀ (x : ExtW M wr), x.val.cell? ⟨g, Q * 9 + 8, none⟩ = some (.int .i64 a.un) := fun x => (x.cell _ HgM.out).trans (HcA.out 8 _ rfl)
        have bc0 : ∀ (x : ExtW M wr), x.val.cell? ⟨g, h * 9, none⟩ = some (.int .i64 b.cs) := fun x => (x.cell _ HgM.out).trans (HcB.out 0 _ rfl)
        have bc1 : ∀ (x : ExtW M wr), x.val.cell? ⟨g, h * 9 + 1, none⟩ = some (.int .i64 b.co) := fun x => (x.cell _ HgM.out).trans (HcB.out 1 _ rfl)
        have bc2 : ∀ (x : ExtW M wr), x.val.cell? ⟨g, h * 9 + 2, none⟩ = some (.int .i64 b.cf) := fun x => (x.cell _ HgM.out).trans (HcB.out 2 _ rfl)
        have bc3 : ∀ (x : ExtW M wr), x.val.cell? ⟨g, h * 9 + 3, none⟩ = some (.int .i64 b.ct) := fun x => (x.cell _ HgM.out).trans (HcB.out 3 _ rfl)
        have bc4 : ∀ (x : ExtW M wr), x.val.cell? ⟨g, h * 9 + 4, none⟩ = some (.int .i64 b.cl) := fun x => (x.cell _ HgM.out).trans (HcB.out 4 _ rfl)
        have bc5 : ∀ (x : ExtW M wr), x.val.cell? ⟨g, h * 9 + 5, none⟩ = some (.bool b.se) := fun x => (x.cell _ HgM.out).trans (HcB.out 5 _ rfl)
        have bc6 : ∀ (x : ExtW M wr), x.val.cell? ⟨g, h * 9 + 6, none⟩ = some (.bool b.ex) := fun x => (x.cell _ HgM.out).trans (HcB.out 6 _ rfl)
        have bc7 : ∀ (x : ExtW M wr), x.val.cell? ⟨g, h * 9 + 7, none⟩ = some (.int .i64 b.fi) := fun x => (x.cell _ HgM.out).trans (HcB.out 7 _ rfl)
        have bc8 : ∀ (x : ExtW M wr), x.val.cell? ⟨g, h * 9 + 8, none⟩ = some (.int .i64 b.un) := fun x => (x.cell _ HgM.out).trans (HcB.out 8 _ rfl)
        refine wp_region_ext M (by kernel_rfl) (by kernel_rfl) ?_
        repeat (go_big_quiet_step ((go_at_fn fn; exact Calls.ext_of (Con.out _) HML.out)))
        refine wpQuiet_nil ?_
        rintro _ ⟨x, rfl⟩
        clear Con ac0 ac1 ac2 ac3 ac4 ac5 ac6 ac7 ac8 bc0 bc1 bc2 bc3 bc4 bc5 bc6 bc7 bc8
        generalize hZ : z _ _ = Z
        clear hZ hw1
        have HP2 : Hid (Perms Du.row 63 9 w g l x.val) := Lib.hid (HP.out.below (by rw [← HM.out]; exact x.below))
        by_cases hz : Z < 0
        · have d2 : decide (Z < 0) = true := decide_eq_true hz
          have d3 : (!decide (Z < 0)) = false := by rw [d2]; rfl
          rw [d3]
          clear d3
          go_wp2_with fail
          go_roundw
          case rel => exact ⟨i, h, by omega, by omega, by omega, by omega, by omega, rfl, rfl, HP2⟩
          case measure => simp [intOf]; omega
        · have d2 : decide (Z < 0) = false := decide_eq_false hz
          have d3 : (!decide (Z < 0)) = true := by rw [d2]; rfl
          rw [d3]
          clear d3
          go_wp2_with fail
          go_roundw
          case rel => exact ⟨h + 1, j, by omega, by omega, by omega, by omega, by omega, by go_num, rfl, HP2⟩
          case measure => simp [intOf]; omega
      · skip
        obtain ⟨e, he0⟩ : ∃ e, e = N - i := ⟨_, rfl⟩
        have he1 : e + i ≤ N := by omega
        have he2 : N ≤ e + i := by omega
        have hee : Hid ((N : Int) - (i : Int) = (e : Int)) := Lib.hid (by omega)
        clear he0
        go_upto_region 39 with fail
        rw [hee.out]
        have t1 : (i < m0 ∧ m0 < e) ∨ ¬ i < m0 ∨ (i < m0 ∧ ¬ m0 < e) := by omega
        have t2 : (a0 < i ∧ i < mid) ∨ ¬ a0 < i ∨ (a0 < i ∧ ¬ i < mid) := by omega
        have t3 : (mid < e ∧ e < b0) ∨ ¬ mid < e ∨ (mid < e ∧ ¬ e < b0) := by omega
        have HRot : i < m0 → m0 < e → Hid _ := fun h1 h2 => Lib.hid (fun W (HPW : Perms Du.row 63 9 w g l W) => (by
          obtain ⟨hgr, l1, hp1, hr1⟩ := HPW
          have hll : l1.length = n := by rw [HN.out]; exact hp1.length_eq
          have con := rotate_any z fn cb l1 g c i m0 e W eg hr1 h1 h2 (by omega) (by omega) (HC.out.later hgr)
          rw [hll] at con
          exact con.mono fun _ _ h => ⟨h.1, Perms.trans hgr hp1 h.2⟩ : Calls Try.prog 79 #[.slice (some ⟨g, 0, none⟩) n c, .int .i64 ((i : Nat) : Int), .int .i64 ((m0 : Nat) : Int), .int .i64 ((e : Nat) : Int), .func (.func fn) #[] cb] W fun e w' => e = .returned (.tuple #[]) ∧ Perms Du.row 63 9 w g l w'))
        have HS1 : a0 < i → i < mid → Hid _ := fun h1 h2 => Lib.hid (fun W (HPW : Perms Du.row 63 9 w g l W) => (by
          obtain ⟨hgr, l1, hp1, hr1⟩ := HPW
          have hll : l1.length = n := by rw [HN.out]; exact hp1.length_eq
          have con := HI.out l1 a0 i mid W hr1 h1 h2 (by omega) (by omega) (by omega) (HC.out.later hgr)
          rw [hll] at con
          exact con.mono fun _ _ h => ⟨h.1, Perms.trans hgr hp1 h.2⟩ : Calls Try.prog 76 #[.slice (some ⟨g, 0, none⟩) n c, .int .i64 ((a0 : Nat) : Int), .int .i64 ((i : Nat) : Int), .int .i64 ((mid : Nat) : Int), .func (.func fn) #[] cb] W fun e w' => e = .returned (.tuple #[]) ∧ Perms Du.row 63 9 w g l w'))
        have HS2 : mid < e → e < b0 → Hid _ := fun h1 h2 => Lib.hid (fun W (HPW : Perms Du.row 63 9 w g l W) => (by
          obtain ⟨hgr, l1, hp1, hr1⟩ := HPW
          have hll : l1.length = n := by rw [HN.out]; exact hp1.length_eq
          have con := HI.out l1 mid e b0 W hr1 h1 h2 (by omega) (by omega) (by omega) (HC.out.later hgr)
          rw [hll] at con
          exact con.mono fun _ _ h => ⟨h.1, Perms.trans hgr hp1 h.2⟩ : Calls Try.prog 76 #[.slice (some ⟨g, 0, none⟩) n c, .int .i64 ((mid : Nat) : Int), .int .i64 ((e : Nat) : Int), .int .i64 ((b0 : Nat) : Int), .func (.func fn) #[] cb] W fun e w' => e = .returned (.tuple #[]) ∧ Perms Du.row 63 9 w g l w'))
        clear HI
        rcases t1 with ⟨a1, a2⟩ | a1 | ⟨a1, a2⟩
        all_goals rcases t2 with ⟨b1, b2⟩ | b1 | ⟨b1, b2⟩
        all_goals rcases t3 with ⟨c1, c2⟩ | c1 | ⟨c1, c2⟩
        all_goals
          go_wp2_with (first | (go_at_call 79; (with_reducible refine ((HRot a1 a2).out _ HP.out).mono ?_); rintro _ w2 ⟨rfl, hq⟩; have HP := Lib.hid hq; clear hq) | (go_at_call 76; (with_reducible refine ((HS1 b1 b2).out _ HP.out).mono ?_); rintro _ w3 ⟨rfl, hq⟩; have HP := Lib.hid hq; clear hq) | (go_at_call 76; (with_reducible refine ((HS2 c1 c2).out _ HP.out).mono ?_); rintro _ w4 ⟨rfl, hq⟩; have HP := Lib.hid hq; clear hq))
          go_end0
          exact ⟨rfl, HP.out⟩
  · go_wp2_with fail
    rw [hPe.out]
    go_loopw [20, 21] (fun s1 s2 wr => ∃ (i j : Nat), a0 ≤ i ∧ i ≤ j ∧ j ≤ m0 ∧ j ≤ mid ∧ N ≤ b0 + i ∧ s1 = .int .i64 i ∧ s2 = .int .i64 j ∧ Hid (Perms Du.row 63 9 w g l wr)) (fun s1 s2 _ => (intOf s2).toNat - (intOf s1).toNat)
    case atStart => exact ⟨a0, m0, by omega, by omega, by omega, by omega, by omega, rfl, rfl, HS⟩
    case round =>
      clear HS
      obtain ⟨i, j, hi1, hi2, hi3, hi4, hi5, rfl, rfl, HP⟩ := hrel
      by_cases hlt : i < j
      · clear HI
        obtain ⟨h, hh0⟩ : ∃ h : Nat, h = (i + j) / 2 := ⟨_, rfl⟩
        have hk1 : 2 * h ≤ i + j := by omega
        have hk2 : i + j ≤ 2 * h + 1 := by omega
        have hke : Hid ((((i : Nat) : Int) + ((j : Nat) : Int)) / 2 = ((h : Nat) : Int)) := Lib.hid (by omega)
        clear hh0
        obtain ⟨Q, hQ⟩ : ∃ Q, Q = P - h := ⟨_, rfl⟩
        have hQn : Q < n := by omega
        have hhn : h < n := by omega
        have hw1 : IntKind.i64.wrap ((P : Int) - (h : Int)) = (Q : Int) := by rw [IntWalk.i64_in _ (by omega)]; omega
        clear hQ
        obtain ⟨hgr, l1, hp1, hr1⟩ := HP.out
        have hll : l1.length = n := by rw [HN.out]; exact hp1.length_eq
        obtain ⟨a, ha⟩ := get_of_lt (l := l1) (k := Q) (by omega)
        obtain ⟨b, hb⟩ := get_of_lt (l := l1) (k := h) (by omega)
        obtain ⟨M, hM⟩ : ∃ M, M = wr.heap.size := ⟨_, rfl⟩
        have HgM : Hid (g < M) := Lib.hid (by rw [hM]; exact hr1.lt)
        have HML : Hid (M ≤ wr.heap.size) := Lib.hid (by omega)
        have HcA := Lib.hid (fun (j : Nat) (u : Value) (hu : a.row[j]? = some u) => hr1.cell (map_get ha) hu)
        have HcB := Lib.hid (fun (j : Nat) (u : Value) (hu : b.row[j]? = some u) => hr1.cell (map_get hb) hu)
        have HR1 := Lib.hid hr1
        have HA := Lib.hid ha
        have HB := Lib.hid hb
        have HG := Lib.hid hgr
        have HPm := Lib.hid hp1
        have HM := Lib.hid hM
        clear hr1 ha hb hgr hp1 hll hM
        go_upto_region 35 with fail
        rw [hke.out]
        have Con := Lib.hid (fun (x : ExtW M wr) => HC.out x.val (grown_trans HG.out (grown_below (by rw [← HM.out]; exact x.below) _)) a b)
        have ac0 : ∀ (x : ExtW M wr), x.val.cell? ⟨g, Q * 9, none⟩ = some (.int .i64 a.cs) := fun x => (x.cell _ HgM.out).trans (HcA.out 0 _ rfl)
        have ac1 : ∀ (x : ExtW M wr), x.val.cell? ⟨g, Q * 9 + 1, none⟩ = some (.int .i64 a.co) := fun x => (x.cell _ HgM.out).trans (HcA.out 1 _ rfl)
        have ac2 : ∀ (x : ExtW M wr), x.val.cell? ⟨g, Q * 9 + 2, none⟩ = some (.int .i64 a.cf) := fun x => (x.cell _ HgM.out).trans (HcA.out 2 _ rfl)
        have ac3 : ∀ (x : ExtW M wr), x.val.cell? ⟨g, Q * 9 + 3, none⟩ = some (.int .i64 a.ct) := fun x => (x.cell _ HgM.out).trans (HcA.out 3 _ rfl)
        have ac4 : ∀ (x : ExtW M wr), x.val.cell? ⟨g, Q * 9 + 4, none⟩ = some (.int .i64 a.cl) := fun x => (x.cell _ HgM.out).trans (HcA.out 4 _ rfl)
        have ac5 : ∀ (x : ExtW M wr), x.val.cell? ⟨g, Q * 9 + 5, none⟩ = some (.bool a.se) := fun x => (x.cell _ HgM.out).trans (HcA.out 5 _ rfl)
        have ac6 : ∀ (x : ExtW M wr), x.val.cell? ⟨g, Q * 9 + 6, none⟩ = some (.bool a.ex) := fun x => (x.cell _ HgM.out).trans (HcA.out 6 _ rfl)
        have ac7 : ∀ (x : ExtW M wr), x.val.cell? ⟨g, Q * 9 + 7, none⟩ = some (.int .i64 a.fi) := fun x => (x.cell _ HgM.out).trans (HcA.out 7 _ rfl)
        have ac8 : ∀ (x : ExtW M wr), x.val.cell? ⟨g, Q * 9 + 8, none⟩ = some (.int .i64 a.un) := fun x => (x.cell _ HgM.out).trans (HcA.out 8 _ rfl)
        have bc0 : ∀ (x : ExtW M wr), x.val.cell? ⟨g, h * 9, none⟩ = some (.int .i64 b.cs) := fun x => (x.cell _ HgM.out).trans (HcB.out 0 _ rfl)
        have bc1 : ∀ (x : ExtW M wr), x.val.cell? ⟨g, h * 9 + 1, none⟩ = some (.int .i64 b.co) := fun x => (x.cell _ HgM.out).trans (HcB.out 1 _ rfl)
        have bc2 : ∀ (x : ExtW M wr), x.val.cell? ⟨g, h * 9 + 2, none⟩ = some (.int .i64 b.cf) := fun x => (x.cell _ HgM.out).trans (HcB.out 2 _ rfl)
        have bc3 : ∀ (x : ExtW M wr), x.val.cell? ⟨g, h * 9 + 3, none⟩ = some (.int .i64 b.ct) := fun x => (x.cell _ HgM.out).trans (HcB.out 3 _ rfl)
        have bc4 : ∀ (x : ExtW M wr), x.val.cell? ⟨g, h * 9 + 4, none⟩ = some (.int .i64 b.cl) := fun x => (x.cell _ HgM.out).trans (HcB.out 4 _ rfl)
        have bc5 : ∀ (x : ExtW M wr), x.val.cell? ⟨g, h * 9 + 5, none⟩ = some (.bool b.se) := fun x => (x.cell _ HgM.out).trans (HcB.out 5 _ rfl)
        have bc6 : ∀ (x : ExtW M wr), x.val.cell? ⟨g, h * 9 + 6, none⟩ = some (.bool b.ex) := fun x => (x.cell _ HgM.out).trans (HcB.out 6 _ rfl)
        have bc7 : ∀ (x : ExtW M wr), x.val.cell? ⟨g, h * 9 + 7, none⟩ = some (.int .i64 b.fi) := fun x => (x.cell _ HgM.out).trans (HcB.out 7 _ rfl)
        have bc8 : ∀ (x : ExtW M wr), x.val.cell? ⟨g, h * 9 + 8, none⟩ = some (.int .i64 b.un) := fun x => (x.cell _ HgM.out).trans (HcB.out 8 _ rfl)
        refine wp_region_ext M (by kernel_rfl) (by kernel_rfl) ?_
        repeat (go_big_quiet_step ((go_at_fn fn; exact Calls.ext_of (Con.out _) HML.out)))
        refine wpQuiet_nil ?_
        rintro _ ⟨x, rfl⟩
        clear Con ac0 ac1 ac2 ac3 ac4 ac5 ac6 ac7 ac8 bc0 bc1 bc2 bc3 bc4 bc5 bc6 bc7 bc8
        generalize hZ : z _ _ = Z
        clear hZ hw1
        have HP2 : Hid (Perms Du.row 63 9 w g l x.val) := Lib.hid (HP.out.below (by rw [← HM.out]; exact x.below))
        by_cases hz : Z < 0
        · have d2 : decide (Z < 0) = true := decide_eq_true hz
          have d3 : (!decide (Z < 0)) = false := by rw [d2]; rfl
          rw [d3]
          clear d3
          go_wp2_with fail
          go_roundw
          case rel => exact ⟨i, h, by omega, by omega, by omega, by omega, by omega, rfl, rfl, HP2⟩
          case measure => simp [intOf]; omega
        · have d2 : decide (Z < 0) = false := decide_eq_false hz
          have d3 : (!decide (Z < 0)) = true := by rw [d2]; rfl
          rw [d3]
          clear d3
          go_wp2_with fail
          go_roundw
          case rel => exact ⟨h + 1, j, by omega, by omega, by omega, by omega, by omega, by go_num, rfl, HP2⟩
          case measure => simp [intOf]; omega
      · skip
        obtain ⟨e, he0⟩ : ∃ e, e = N - i := ⟨_, rfl⟩
        have he1 : e + i ≤ N := by omega
        have he2 : N ≤ e + i := by omega
        have hee : Hid ((N : Int) - (i : Int) = (e : Int)) := Lib.hid (by omega)
        clear he0
        go_upto_region 39 with fail
        rw [hee.out]
        have t1 : (i < m0 ∧ m0 < e) ∨ ¬ i < m0 ∨ (i < m0 ∧ ¬ m0 < e) := by omega
        have t2 : (a0 < i ∧ i < mid) ∨ ¬ a0 < i ∨ (a0 < i ∧ ¬ i < mid) := by omega
        have t3 : (mid < e ∧ e < b0) ∨ ¬ mid < e ∨ (mid < e ∧ ¬ e < b0) := by omega
        have HRot : i < m0 → m0 < e → Hid _ := fun h1 h2 => Lib.hid (fun W (HPW : Perms Du.row 63 9 w g l W) => (by
          obtain ⟨hgr, l1, hp1, hr1⟩ := HPW
          have hll : l1.length = n := by rw [HN.out]; exact hp1.length_eq
          have con := rotate_any z fn cb l1 g c i m0 e W eg hr1 h1 h2 (by omega) (by omega) (HC.out.later hgr)
          rw [hll] at con
          exact con.mono fun _ _ h => ⟨h.1, Perms.trans hgr hp1 h.2⟩ : Calls Try.prog 79 #[.slice (some ⟨g, 0, none⟩) n c, .int .i64 ((i : Nat) : Int), .int .i64 ((m0 : Nat) : Int), .int .i64 ((e : Nat) : Int), .func (.func fn) #[] cb] W fun e w' => e = .returned (.tuple #[]) ∧ Perms Du.row 63 9 w g l w'))
        have HS1 : a0 < i → i < mid → Hid _ := fun h1 h2 => Lib.hid (fun W (HPW : Perms Du.row 63 9 w g l W) => (by
          obtain ⟨hgr, l1, hp1, hr1⟩ := HPW
          have hll : l1.length = n := by rw [HN.out]; exact hp1.length_eq
          have con := HI.out l1 a0 i mid W hr1 h1 h2 (by omega) (by omega) (by omega) (HC.out.later hgr)
          rw [hll] at con
          exact con.mono fun _ _ h => ⟨h.1, Perms.trans hgr hp1 h.2⟩ : Calls Try.prog 76 #[.slice (some ⟨g, 0, none⟩) n c, .int .i64 ((a0 : Nat) : Int), .int .i64 ((i : Nat) : Int), .int .i64 ((mid : Nat) : Int), .func (.func fn) #[] cb] W fun e w' => e = .returned (.tuple #[]) ∧ Perms Du.row 63 9 w g l w'))
        have HS2 : mid < e → e < b0 → Hid _ := fun h1 h2 => Lib.hid (fun W (HPW : Perms Du.row 63 9 w g l W) => (by
          obtain ⟨hgr, l1, hp1, hr1⟩ := HPW
          have hll : l1.length = n := by rw [HN.out]; exact hp1.length_eq
          have con := HI.out l1 mid e b0 W hr1 h1 h2 (by omega) (by omega) (by omega) (HC.out.later hgr)
          rw [hll] at con
          exact con.mono fun _ _ h => ⟨h.1, Perms.trans hgr hp1 h.2⟩ : Calls Try.prog 76 #[.slice (some ⟨g, 0, none⟩) n c, .int .i64 ((mid : Nat) : Int), .int .i64 ((e : Nat) : Int), .int .i64 ((b0 : Nat) : Int), .func (.func fn) #[] cb] W fun e w' => e = .returned (.tuple #[]) ∧ Perms Du.row 63 9 w g l w'))
        clear HI
        rcases t1 with ⟨a1, a2⟩ | a1 | ⟨a1, a2⟩
        all_goals rcases t2 with ⟨b1, b2⟩ | b1 | ⟨b1, b2⟩
        all_goals rcases t3 with ⟨c1, c2⟩ | c1 | ⟨c1, c2⟩
        all_goals
          go_wp2_with (first | (go_at_call 79; (with_reducible refine ((HRot a1 a2).out _ HP.out).mono ?_); rintro _ w2 ⟨rfl, hq⟩; have HP := Lib.hid hq; clear hq) | (go_at_call 76; (with_reducible refine ((HS1 b1 b2).out _ HP.out).mono ?_); rintro _ w3 ⟨rfl, hq⟩; have HP := Lib.hid hq; clear hq) | (go_at_call 76; (with_reducible refine ((HS2 c1 c2).out _ HP.out).mono ?_); rintro _ w4 ⟨rfl, hq⟩; have HP := Lib.hid hq; clear hq))
          go_end0
          exact ⟨rfl, HP.out⟩

/-- Merging exchanges rows only. -/
theorem symm_any (z : Du → Du → Int) (fn : FuncId) (cb : Array Value) (g c : Nat) (eg : ∀ args w, (callFunc fn args).run Try.prog w = .ok (.enter fn args) w) : ∀ (d : Nat) (l : List Du) (a0 m0 b0 : Nat) (w : World), b0 - a0 ≤ d → RowsAt w g 63 9 (l.map Du.row) → a0 < m0 → m0 < b0 → b0 ≤ l.length → l.length ≤ 1000 → CmpD z fn cb g w →
    Calls Try.prog 76 #[.slice (some ⟨g, 0, none⟩) l.length c, .int .i64 a0, .int .i64 m0, .int .i64 b0, .func (.func fn) #[] cb] w fun e w' => e = .returned (.tuple #[]) ∧ Perms Du.row 63 9 w g l w'
  | 0, _, _, _, _, _, hd, _, h1, h2, _, _, _ => by omega
  | d + 1, l, a0, m0, b0, w, hd, hr, h1, h2, h3, hl, hc => by
    by_cases e1 : m0 = a0 + 1
    · exact sym1_any z fn cb l g c a0 m0 b0 w eg hr e1 h2 h3 hl hc
    · by_cases e2 : b0 = m0 + 1
      · exact sym2_any z fn cb l g c a0 m0 b0 w eg hr (by omega) e2 h3 hl hc
      · exact sym3_any z fn cb l g c a0 m0 b0 w eg hr (by omega) (by omega) h3 (fun l' a m b W hr' h1' h2' h3' hlt hl' hc' => symm_any z fn cb g c eg d l' a m b W (by omega) hr' h1' h2' h3' hl' hc') hl hc
end Go.Proofs.Ytepamedbbbfjkaa
