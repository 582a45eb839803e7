/- Walks: package slices' stable sort of duties exchanges rows only: merging, the small cases. -/
import Derived.Test.YtepamedbbbfjkaaSoD2
namespace Go.Proofs.Ytepamedbbbfjkaa
open Go.RowKit
open Nd

set_option maxRecDepth 100000 in
set_option maxHeartbeats 8000000 in
theorem sym1_any (z : Du → Du → Int) (fn : FuncId) (cb : Array Value) (l : List Du) (g c a0 m0 b0 : Nat) (w : World) (eg : ∀ args w, (callFunc fn args).run Try.prog w = .ok (.enter fn args) w)
    (hr : RowsAt w g 63 9 (l.map Du.row)) (h1 : m0 = a0 + 1) (h2 : m0 < b0) (h3 : b0 ≤ l.length) (hl : l.length ≤ 1000) (hc : CmpD z fn cb g w) :
    Calls Try.prog 76 #[.slice (some ⟨g, 0, none⟩) l.length c, .int .i64 a0, .int .i64 m0, .int .i64 b0, .func (.func fn) #[] cb] w fun e w' => e = .returned (.tuple #[]) ∧ Perms Du.row 63 9 w g l w' := by
  obtain ⟨n, hn⟩ : ∃ n, n = l.length := ⟨_, rfl⟩
  rw [← hn] at h3 hl ⊢
  have HN := Lib.hid hn
  have HC := Lib.hid hc
  have HS := Lib.hid (Perms.start hr)
  clear hn hc hr
  have hm1 : m0 ≤ a0 + 1 := by omega
  have hm2 : a0 + 1 ≤ m0 := by omega
  have q1 : ((m0 : Int) - (a0 : Int) == 1) = true := by simp; omega
  clear h1
  go_enter Try.func76, Try.ntmps76
  go_wp2_with fail
  go_loopw [10, 11] (fun s1 s2 wr => ∃ (i j : Nat), m0 ≤ i ∧ i ≤ j ∧ j ≤ b0 ∧ s1 = .int .i64 i ∧ s2 = .int .i64 j ∧ Hid (Perms Du.row 63 9 w g l wr)) (fun s1 s2 _ => (intOf s2).toNat - (intOf s1).toNat)
  case atStart => exact ⟨m0, b0, by omega, by omega, by omega, rfl, rfl, HS⟩
  case round =>
    clear HS
    obtain ⟨i, j, hi1, hi2, hi3, rfl, rfl, HP⟩ := hrel
    by_cases hlt : i < j
    · skip
      obtain ⟨h, hh0⟩ : ∃ h : Nat, h = (i + j) / 2 := ⟨_, rfl⟩
      have hh1 : 2 * h ≤ i + j := by omega
      have hh2 : i + j ≤ 2 * h + 1 := by omega
      have hhe : Hid ((((i : Nat) : Int) + ((j : Nat) : Int)) / 2 = ((h : Nat) : Int)) := Lib.hid (by omega)
      clear hh0
      obtain ⟨hgr, l1, hp1, hr1⟩ := HP.out
      have hll : l1.length = n := by rw [HN.out]; exact hp1.length_eq
      obtain ⟨a, ha⟩ := get_of_lt (l := l1) (k := h) (by omega)
      obtain ⟨b, hb⟩ := get_of_lt (l := l1) (k := a0) (by omega)
      obtain ⟨M, hM⟩ : ∃ M, M = wr.heap.size := ⟨_, rfl⟩
      have HgM : Hid (g < M) := Lib.hid (by rw [hM]; exact hr1.lt)
      have HML : Hid (M ≤ wr.heap.size) := Lib.hid (by omega)
      have HcA := Lib.hid (fun (j : Nat) (u : Value) (hu : a.row[j]? = some u) => hr1.cell (map_get ha) hu)
      have HcB := Lib.hid (fun (j : Nat) (u : Value) (hu : b.row[j]? = some u) => hr1.cell (map_get hb) hu)
      have HR1 := Lib.hid hr1
      have HA := Lib.hid ha
      have HB := Lib.hid hb
      have HG := Lib.hid hgr
      have HPm := Lib.hid hp1
      have HM := Lib.hid hM
      clear hr1 ha hb hgr hp1 hll hM
      have hhn : h < n := by omega
      have hon : a0 < n := by omega
      go_upto_region 5 with fail
      rw [hhe.out]
      have Con := Lib.hid (fun (x : ExtW M wr) => HC.out x.val (grown_trans HG.out (grown_below (by rw [← HM.out]; exact x.below) _)) a b)
      have ac0 : ∀ (x : ExtW M wr), x.val.cell? ⟨g, h * 9, none⟩ = some (.int .i64 a.cs) := fun x => (x.cell _ HgM.out).trans (HcA.out 0 _ rfl)
      have ac1 : ∀ (x : ExtW M wr), x.val.cell? ⟨g, h * 9 + 1, none⟩ = some (.int .i64 a.co) := fun x => (x.cell _ HgM.out).trans (HcA.out 1 _ rfl)
      have ac2 : ∀ (x : ExtW M wr), x.val.cell? ⟨g, h * 9 + 2, none⟩ = some (.int .i64 a.cf) := fun x => (x.cell _ HgM.out).trans (HcA.out 2 _ rfl)
      have ac3 : ∀ (x : ExtW M wr), x.val.cell? ⟨g, h * 9 + 3, none⟩ = some (.int .i64 a.ct) := fun x => (x.cell _ HgM.out).trans (HcA.out 3 _ rfl)
      have ac4 : ∀ (x : ExtW M wr), x.val.cell? ⟨g, h * 9 + 4, none⟩ = some (.int .i64 a.cl) := fun x => (x.cell _ HgM.out).trans (HcA.out 4 _ rfl)
      have ac5 : ∀ (x : ExtW M wr), x.val.cell? ⟨g, h * 9 + 5, none⟩ = some (.bool a.se) := fun x => (x.cell _ HgM.out).trans (HcA.out 5 _ rfl)
      have ac6 : ∀ (x : ExtW M wr), x.val.cell? ⟨g, h * 9 + 6, none⟩ = some (.bool a.ex) := fun x => (x.cell _ HgM.out).trans (HcA.out 6 _ rfl)
      have ac7 : ∀ (x : ExtW M wr), x.val.cell? ⟨g, h * 9 + 7, none⟩ = some (.int .i64 a.fi) := fun x => (x.cell _ HgM.out).trans (HcA.out 7 _ rfl)
      have ac8 : ∀ (x : ExtW M wr), x.val.cell? ⟨g, h * 9 + 8, none⟩ = some (.int .i64 a.un) := fun x => (x.cell _ HgM.out).trans (HcA.out 8 _ rfl)
      have bc0 : ∀ (x : ExtW M wr), x.val.cell? ⟨g, a0 * 9, none⟩ = some (.int .i64 b.cs) := fun x => (x.cell _ HgM.out).trans (HcB.out 0 _ rfl)
      have bc1 : ∀ (x : ExtW M wr), x.val.cell? ⟨g, a0 * 9 + 1, none⟩ = some (.int .i64 b.co) := fun x => (x.cell _ HgM.out).trans (HcB.out 1 _ rfl)
      have bc2 : ∀ (x : ExtW M wr), x.val.cell? ⟨g, a0 * 9 + 2, none⟩ = some (.int .i64 b.cf) := fun x => (x.cell _ HgM.out).trans (HcB.out 2 _ rfl)
      have bc3 : ∀ (x : ExtW M wr), x.val.cell? ⟨g, a0 * 9 + 3, none⟩ = some (.int .i64 b.ct) := fun x => (x.cell _ HgM.out).trans (HcB.out 3 _ rfl)
      have bc4 : ∀ (x : ExtW M wr), x.val.cell? ⟨g, a0 * 9 + 4, none⟩ = some (.int .i64 b.cl) := fun x => (x.cell _ HgM.out).trans (HcB.out 4 _ rfl)
      have bc5 : ∀ (x : ExtW M wr), x.val.cell? ⟨g, a0 * 9 + 5, none⟩ = some (.bool b.se) := fun x => (x.cell _ HgM.out).trans (HcB.out 5 _ rfl)
      have bc6 : ∀ (x : ExtW M wr), x.val.cell? ⟨g, a0 * 9 + 6, none⟩ = some (.bool b.ex) := fun x => (x.cell _ HgM.out).trans (HcB.out 6 _ rfl)
      have bc7 : ∀ (x : ExtW M wr), x.val.cell? ⟨g, a0 * 9 + 7, none⟩ = some (.int .i64 b.fi) := fun x => (x.cell _ HgM.out).trans (HcB.out 7 _ rfl)
      have bc8 : ∀ (x : ExtW M wr), x.val.cell? ⟨g, a0 * 9 + 8, none⟩ = some (.int .i64 b.un) := fun x => (x.cell _ HgM.out).trans (HcB.out 8 _ rfl)
      refine wp_region_ext M (by kernel_rfl) (by kernel_rfl) ?_
      repeat (go_big_quiet_step ((go_at_fn fn; exact Calls.ext_of (Con.out _) HML.out)))
      refine wpQuiet_nil ?_
      rintro _ ⟨x, rfl⟩
      clear Con ac0 ac1 ac2 ac3 ac4 ac5 ac6 ac7 ac8 bc0 bc1 bc2 bc3 bc4 bc5 bc6 bc7 bc8
      generalize hZ : z _ _ = Z
      clear hZ
      have HP2 : Hid (Perms Du.row 63 9 w g l x.val) := Lib.hid (HP.out.below (by rw [← HM.out]; exact x.below))
      by_cases hz : Z < 0
      · have d2 : decide (Z < 0) = true := decide_eq_true hz
        go_wp2_with fail
        go_roundw
        case rel => exact ⟨h + 1, j, by omega, by omega, by omega, by go_num, rfl, HP2⟩
        case measure => simp [intOf]; omega
      · have d2 : decide (Z < 0) = false := decide_eq_false hz
        go_wp2_with fail
        go_roundw
        case rel => exact ⟨i, h, by omega, by omega, by omega, rfl, rfl, HP2⟩
        case measure => simp [intOf]; omega
    · go_wp2_with fail
      clear hlt
      obtain ⟨wo, hwo⟩ : ∃ wo : World, wo = wr := ⟨_, rfl⟩
      subst hwo
      go_loopw [13] (fun s1 wr => ∃ (k : Nat), a0 ≤ k ∧ k + 1 ≤ i ∧ s1 = .int .i64 k ∧ Hid (Perms Du.row 63 9 w g l wr)) (fun s1 _ => i - (intOf s1).toNat)
      case atStart => exact ⟨a0, by omega, by omega, rfl, HP⟩
      case round =>
        clear HP
        obtain ⟨k, hk1, hk2, rfl, HP⟩ := hrel
        by_cases hlt : k + 1 < i
        · have hkn : k < n := by omega
          have hkn2 : k + 1 < n := by omega
          have hw1 : IntKind.i64.wrap ((k : Int) + 1) = ((k + 1 : Nat) : Int) := by rw [IntWalk.i64_in _ (by omega)]; omega
          have d1 : decide ((k : Int) < (i : Int) - 1) = true := decide_eq_true (by omega)
          obtain ⟨hgr, l1, hp1, hr1⟩ := HP.out
          have hll : l1.length = n := by rw [HN.out]; exact hp1.length_eq
          obtain ⟨a, ha⟩ := get_of_lt (l := l1) (k := k) (by omega)
          obtain ⟨b, hb⟩ := get_of_lt (l := l1) (k := k + 1) (by omega)
          obtain ⟨M, hM⟩ : ∃ M, M = wr.heap.size := ⟨_, rfl⟩
          have HgM : Hid (g < M) := Lib.hid (by rw [hM]; exact hr1.lt)
          have HML : Hid (M ≤ wr.heap.size) := Lib.hid (by omega)
          have HcA := Lib.hid (fun (j : Nat) (u : Value) (hu : a.row[j]? = some u) => hr1.cell (map_get ha) hu)
          have HcB := Lib.hid (fun (j : Nat) (u : Value) (hu : b.row[j]? = some u) => hr1.cell (map_get hb) hu)
          have HR1 := Lib.hid hr1
          have HA := Lib.hid ha
          have HB := Lib.hid hb
          have HG := Lib.hid hgr
          have HPm := Lib.hid hp1
          have HM := Lib.hid hM
          clear hr1 ha hb hgr hp1 hll hM
          have HRw : Hid (RowsAt wr g 63 9 (l1.map Du.row)) := Lib.hid HR1.out
          have HGw : Hid (w.grownBy wr (some g)) := Lib.hid HG.out
          go_upto_region 11 with fail
          refine wp_region_rough (M) 18 [15, 17] #[false, false, false, false, false, false, false, false, false, false, false, false, false, false, false, false, false, false] (by kernel_rfl) rfl rfl ?_
          generalize hwd : World.drew _ = wd
          have HRd : Hid (RowsAt wd g 63 9 (l1.map Du.row)) := Lib.hid (by rw [← hwd]; exact HRw.out.keep rfl)
          have HGd : Hid (w.grownBy wd (some g)) := Lib.hid (by rw [← hwd]; exact grown_trans HGw.out (grown_drew _ _))
          clear hwd
          have HcAd := Lib.hid (fun (j : Nat) (u : Value) (hu : a.row[j]? = some u) => HRd.out.cell (map_get HA.out) hu)
          have HcBd := Lib.hid (fun (j : Nat) (u : Value) (hu : b.row[j]? = some u) => HRd.out.cell (map_get HB.out) hu)
          have ac0 : ∀ (x : ExtW M wd), x.val.cell? ⟨g, k * 9, none⟩ = some (.int .i64 a.cs) := fun x => (x.cell _ HgM.out).trans (HcAd.out 0 _ rfl)
          have ac1 : ∀ (x : ExtW M wd), x.val.cell? ⟨g, k * 9 + 1, none⟩ = some (.int .i64 a.co) := fun x => (x.cell _ HgM.out).trans (HcAd.out 1 _ rfl)
          have ac2 : ∀ (x : ExtW M wd), x.val.cell? ⟨g, k * 9 + 2, none⟩ = some (.int .i64 a.cf) := fun x => (x.cell _ HgM.out).trans (HcAd.out 2 _ rfl)
          have ac3 : ∀ (x : ExtW M wd), x.val.cell? ⟨g, k * 9 + 3, none⟩ = some (.int .i64 a.ct) := fun x => (x.cell _ HgM.out).trans (HcAd.out 3 _ rfl)
          have ac4 : ∀ (x : ExtW M wd), x.val.cell? ⟨g, k * 9 + 4, none⟩ = some (.int .i64 a.cl) := fun x => (x.cell _ HgM.out).trans (HcAd.out 4 _ rfl)
          have ac5 : ∀ (x : ExtW M wd), x.val.cell? ⟨g, k * 9 + 5, none⟩ = some (.bool a.se) := fun x => (x.cell _ HgM.out).trans (HcAd.out 5 _ rfl)
          have ac6 : ∀ (x : ExtW M wd), x.val.cell? ⟨g, k * 9 + 6, none⟩ = some (.bool a.ex) := fun x => (x.cell _ HgM.out).trans (HcAd.out 6 _ rfl)
          have ac7 : ∀ (x : ExtW M wd), x.val.cell? ⟨g, k * 9 + 7, none⟩ = some (.int .i64 a.fi) := fun x => (x.cell _ HgM.out).trans (HcAd.out 7 _ rfl)
          have ac8 : ∀ (x : ExtW M wd), x.val.cell? ⟨g, k * 9 + 8, none⟩ = some (.int .i64 a.un) := fun x => (x.cell _ HgM.out).trans (HcAd.out 8 _ rfl)
          have bc0 : ∀ (x : ExtW M wd), x.val.cell? ⟨g, (k + 1) * 9, none⟩ = some (.int .i64 b.cs) := fun x => (x.cell _ HgM.out).trans (HcBd.out 0 _ rfl)
          have bc1 : ∀ (x : ExtW M wd), x.val.cell? ⟨g, (k + 1) * 9 + 1, none⟩ = some (.int .i64 b.co) := fun x => (x.cell _ HgM.out).trans (HcBd.out 1 _ rfl)
          have bc2 : ∀ (x : ExtW M wd), x.val.cell? ⟨g, (k + 1) * 9 + 2, none⟩ = some (.int .i64 b.cf) := fun x => (x.cell _ HgM.out).trans (HcBd.out 2 _ rfl)
          have bc3 : ∀ (x : ExtW M wd), x.val.cell? ⟨g, (k + 1) * 9 + 3, none⟩ = some (.int .i64 b.ct) := fun x => (x.cell _ HgM.out).trans (HcBd.out 3 _ rfl)
          have bc4 : ∀ (x : ExtW M wd), x.val.cell? ⟨g, (k + 1) * 9 + 4, none⟩ = some (.int .i64 b.cl) := fun x => (x.cell _ HgM.out).trans (HcBd.out 4 _ rfl)
          have bc5 : ∀ (x : ExtW M wd), x.val.cell? ⟨g, (k + 1) * 9 + 5, none⟩ = some (.bool b.se) := fun x => (x.cell _ HgM.out).trans (HcBd.out 5 _ rfl)
          have bc6 : ∀ (x : ExtW M wd), x.val.cell? ⟨g, (k + 1) * 9 + 6, none⟩ = some (.bool b.ex) := fun x => (x.cell _ HgM.out).trans (HcBd.out 6 _ rfl)
          have bc7 : ∀ (x : ExtW M wd), x.val.cell? ⟨g, (k + 1) * 9 + 7, none⟩ = some (.int .i64 b.fi) := fun x => (x.cell _ HgM.out).trans (HcBd.out 7 _ rfl)
          have bc8 : ∀ (x : ExtW M wd), x.val.cell? ⟨g, (k + 1) * 9 + 8, none⟩ = some (.int .i64 b.un) := fun x => (x.cell _ HgM.out).trans (HcBd.out 8 _ rfl)
          refine anyR_take0 0 _ (nth0) rfl (by kernel_rfl) (by kernel_rfl) (by kernel_rfl) (l' := #[true, false, false, false, false, false, false, false, false, false, false, false, false, false, false, false, false, false]) rfl rfl ?_; intro K hK; go_big_quiet_op; go_big_quiet_on
          refine anyR_take0 1 _ (nthS (nth0)) rfl (by kernel_rfl) (by kernel_rfl) (by kernel_rfl) (l' := #[true, true, false, false, false, false, false, false, false, false, false, false, false, false, false, false, false, false]) rfl rfl ?_; intro K hK; go_big_quiet_op; go_big_quiet_on
          refine anyR_take0 2 _ (nthS (nthS (nth0))) rfl (by kernel_rfl) (by kernel_rfl) (by kernel_rfl) (l' := #[true, true, true, false, false, false, false, false, false, false, false, false, false, false, false, false, false, false]) rfl rfl ?_; intro K hK; go_big_quiet_op; go_big_quiet_on
          refine anyR_take0 3 _ (nthS (nthS (nthS (nth0)))) rfl (by kernel_rfl) (by kernel_rfl) (by kernel_rfl) (l' := #[true, true, true, true, false, false, false, false, false, false, false, false, false, false, false, false, false, false]) rfl rfl ?_; intro K hK; go_big_quiet_op; go_big_quiet_on
          refine anyR_take0 4 _ (nthS (nthS (nthS (nthS (nth0))))) rfl (by kernel_rfl) (by kernel_rfl) (by kernel_rfl) (l' := #[true, true, true, true, true, false, false, false, false, false, false, false, false, false, false, false, false, false]) rfl rfl ?_; intro K hK; go_big_quiet_op; go_big_quiet_on
          refine anyR_take0 5 _ (nthS (nthS (nthS (nthS (nthS (nth0)))))) rfl (by kernel_rfl) (by kernel_rfl) (by kernel_rfl) (l' := #[true, true, true, true, true, true, false, false, false, false, false, false, false, false, false, false, false, false]) rfl rfl ?_; intro K hK; go_big_quiet_op; go_big_quiet_on
          refine anyR_take0 6 _ (nthS (nthS (nthS (nthS (nthS (nthS (nth0))))))) rfl (by kernel_rfl) (by kernel_rfl) (by kernel_rfl) (l' := #[true, true, true, true, true, true, true, false, false, false, false, false, false, false, false, false, false, false]) rfl rfl ?_; intro K hK; go_big_quiet_op; go_big_quiet_on
          refine anyR_take0 7 _ (nthS (nthS (nthS (nthS (nthS (nthS (nthS (nth0)))))))) rfl (by kernel_rfl) (by kernel_rfl) (by kernel_rfl) (l' := #[true, true, true, true, true, true, true, true, false, false, false, false, false, false, false, false, false, false]) rfl rfl ?_; intro K hK; go_big_quiet_op; go_big_quiet_on
          refine anyR_take0 8 _ (nthS (nthS (nthS (nthS (nthS (nthS (nthS (nthS (nth0))))))))) rfl (by kernel_rfl) (by kernel_rfl) (by kernel_rfl) (l' := #[true, true, true, true, true, true, true, true, true, false, false, false, false, false, false, false, false, false]) rfl rfl ?_; intro K hK; go_big_quiet_op; go_big_quiet_on
          refine anyR_take 9 _ (nthS (nthS (nthS (nthS (nthS (nthS (nthS (nthS (nthS (nth0)))))))))) rfl (by kernel_rfl) (by kernel_rfl) (by kernel_rfl) (by kernel_rfl) (l' := #[true, true, true, true, true, true, true, true, true, true, false, false, false, false, false, false, false, false]) rfl rfl ?_; intro K hK; go_big_quiet_op; go_big_quiet_on
          refine anyR_take0 10 _ (nthS (nthS (nthS (nthS (nthS (nthS (nthS (nthS (nthS (nthS (nth0))))))))))) rfl (by kernel_rfl) (by kernel_rfl) (by kernel_rfl) (l' := #[true, true, true, true, true, true, true, true, true, true, true, false, false, false, false, false, false, false]) rfl rfl ?_; intro K hK; go_big_quiet_op; go_big_quiet_on
          refine anyR_take0 11 _ (nthS (nthS (nthS (nthS (nthS (nthS (nthS (nthS (nthS (nthS (nthS (nth0)))))))))))) rfl (by kernel_rfl) (by kernel_rfl) (by kernel_rfl) (l' := #[true, true, true, true, true, true, true, true, true, true, true, true, false, false, false, false, false, false]) rfl rfl ?_; intro K hK; go_big_quiet_op; go_big_quiet_on
          refine anyR_take0 12 _ (nthS (nthS (nthS (nthS (nthS (nthS (nthS (nthS (nthS (nthS (nthS (nthS (nth0))))))))))))) rfl (by kernel_rfl) (by kernel_rfl) (by kernel_rfl) (l' := #[true, true, true, true, true, true, true, true, true, true, true, true, true, false, false, false, false, false]) rfl rfl ?_; intro K hK; go_big_quiet_op; go_big_quiet_on
          refine anyR_take 13 _ (nthS (nthS (nthS (nthS (nthS (nthS (nthS (nthS (nthS (nthS (nthS (nthS (nthS (nth0)))))))))))))) rfl (by kernel_rfl) (by kernel_rfl) (by kernel_rfl) (by kernel_rfl) (l' := #[true, true, true, true, true, true, true, true, true, true, true, true, true, true, false, false, false, false]) rfl rfl ?_; intro K hK; go_big_quiet_op; go_big_quiet_on
          refine anyR_take0 14 _ (nthS (nthS (nthS (nthS (nthS (nthS (nthS (nthS (nthS (nthS (nthS (nthS (nthS (nthS (nth0))))))))))))))) rfl (by kernel_rfl) (by kernel_rfl) (by kernel_rfl) (l' := #[true, true, true, true, true, true, true, true, true, true, true, true, true, true, true, false, false, false]) rfl rfl ?_; intro K hK; go_big_quiet_op; go_big_quiet_on
          refine anyR_one 15 _ (nthS (nthS (nthS (nthS (nthS (nthS (nthS (nthS (nthS (nthS (nthS (nthS (nthS (nthS (nthS (nth0)))))))))))))))) (by kernel_rfl) (l' := #[true, true, true, true, true, true, true, true, true, true, true, true, true, true, true, true, false, false]) rfl ?_
          clear ac0 ac1 ac2 ac3 ac4 ac5 ac6 ac7 ac8 bc0 bc1 bc2 bc3 bc4 bc5 bc6 bc7 bc8
          refine wpList_store_mid rfl 63 (.tmp 75) (.tmp 70) rfl g (k * 9) #[.int .i64 b.cs, .int .i64 b.co, .int .i64 b.cf, .int .i64 b.ct, .int .i64 b.cl, .bool b.se, .bool b.ex, .int .i64 b.fi, .int .i64 b.un] rfl rfl (HRd.out.there (by rw [List.length_map]; exact (List.getElem?_eq_some_iff.1 HA.out).1)) (by kernel_rfl) (oneDa b) ?_
          generalize hW : World.setCells _ _ _ _ = W1
          have HR2 : Hid (RowsAt W1 g 63 9 ((l1.map Du.row).set (k) b.row)) := Lib.hid (by rw [← hW]; exact HRd.out.put (by rw [List.length_map]; exact (List.getElem?_eq_some_iff.1 HA.out).1) rfl)
          have hb1 : Below 0 wd W1 := by rw [← hW]; exact below_setCells _ _ _ _
          have HW1 := Lib.hid hW
          clear hW
          go_wp2_with fail
          refine OneR_rough (by kernel_rfl) (hb1) ?_
          refine anyR_take0 16 _ (nthS (nthS (nthS (nthS (nthS (nthS (nthS (nthS (nthS (nthS (nthS (nthS (nthS (nthS (nthS (nthS (nth0))))))))))))))))) rfl (by kernel_rfl) (by kernel_rfl) (by kernel_rfl) (l' := #[true, true, true, true, true, true, true, true, true, true, true, true, true, true, true, true, true, false]) rfl rfl ?_; intro K hK; go_big_quiet_op; go_big_quiet_on
          refine anyR_one 17 _ (nthS (nthS (nthS (nthS (nthS (nthS (nthS (nthS (nthS (nthS (nthS (nthS (nthS (nthS (nthS (nthS (nthS (nth0)))))))))))))))))) (by kernel_rfl) (l' := #[true, true, true, true, true, true, true, true, true, true, true, true, true, true, true, true, true, true]) rfl ?_
          refine wpList_store_mid rfl 63 (.tmp 76) (.tmp 74) rfl g ((k + 1) * 9) #[.int .i64 a.cs, .int .i64 a.co, .int .i64 a.cf, .int .i64 a.ct, .int .i64 a.cl, .bool a.se, .bool a.ex, .int .i64 a.fi, .int .i64 a.un] rfl rfl (HR2.out.there (by rw [List.length_set, List.length_map]; exact (List.getElem?_eq_some_iff.1 HB.out).1)) (by kernel_rfl) (oneDa a) ?_
          generalize hW : World.setCells _ _ _ _ = W2
          have HP2 : Hid (Perms Du.row 63 9 w g l W2) := Lib.hid (by rw [← hW, ← HW1.out]; exact Perms.swap Du.row_len HGd.out HPm.out HRd.out HA.out HB.out)
          have hb2 : Below 0 W1 W2 := by rw [← hW]; exact below_setCells _ _ _ _
          clear hW
          go_wp2_with fail
          refine OneR_rough (by kernel_rfl) (hb2) ?_
          refine anyR_end (by kernel_rfl) ?_
          clear hw1 d1
          go_wp2_with fail
          go_roundw
          case rel => exact ⟨k + 1, by omega, by omega, by go_num, HP2⟩
          case measure => simp [intOf]; omega
        · have d1 : decide ((k : Int) < (i : Int) - 1) = false := decide_eq_false (by omega)
          go_wp2_with fail
          exact bodyPost_ret (v := .tuple #[]) (by simp [results, Try.results76, go_sem]) rfl ⟨rfl, HP.out⟩

set_option maxRecDepth 100000 in
set_option maxHeartbeats 8000000 in
theorem sym2_any (z : Du → Du → Int) (fn : FuncId) (cb : Array Value) (l : List Du) (g c a0 m0 b0 : Nat) (w : World) (eg : ∀ args w, (callFunc fn args).run Try.prog w = .ok (.enter fn args) w)
    (hr : RowsAt w g 63 9 (l.map Du.row)) (h0 : a0 + 1 < m0) (h1 : b0 = m0 + 1) (h3 : b0 ≤ l.length) (hl : l.length ≤ 1000) (hc : CmpD z fn cb g w) :
    Calls Try.prog 76 #[.slice (some ⟨g, 0, none⟩) l.length c, .int .i64 a0, .int .i64 m0, .int .i64 b0, .func (.func fn) #[] cb] w fun e w' => e = .returned (.tuple #[]) ∧ Perms Du.row 63 9 w g l w' := by
  obtain ⟨n, hn⟩ : ∃ n, n = l.length := ⟨_, rfl⟩
  rw [← hn] at h3 hl ⊢
  have HN := Lib.hid hn
  have HC := Lib.hid hc
  have HS := Lib.hid (Perms.start hr)
  clear hn hc hr
  have hm1 : b0 ≤ m0 + 1 := by omega
  have hm2 : m0 + 1 ≤ b0 := by omega
  have q1 : ((m0 : Int) - (a0 : Int) == 1) = false := by simp; omega
  have q2 : ((b0 : Int) - (m0 : Int) == 1) = true := by simp; omega
  clear h1
  go_enter Try.func76, Try.ntmps76
  go_wp2_with fail
  go_loopw [14, 15] (fun s1 s2 wr => ∃ (i j : Nat), a0 ≤ i ∧ i ≤ j ∧ j ≤ m0 ∧ s1 = .int .i64 i ∧ s2 = .int .i64 j ∧ Hid (Perms Du.row 63 9 w g l wr)) (fun s1 s2 _ => (intOf s2).toNat - (intOf s1).toNat)
  case atStart => exact ⟨a0, m0, by omega, by omega, by omega, rfl, rfl, HS⟩
  case round =>
    clear HS
    obtain ⟨i, j, hi1, hi2, hi3, rfl, rfl, HP⟩ := hrel
    by_cases hlt : i < j
    · skip
      obtain ⟨h, hh0⟩ : ∃ h : Nat, h = (i + j) / 2 := ⟨_, rfl⟩
      have hh1 : 2 * h ≤ i + j := by omega
      have hh2 : i + j ≤ 2 * h + 1 := by omega
      have hhe : Hid ((((i : Nat) : Int) + ((j : Nat) : Int)) / 2 = ((h : Nat) : Int)) := Lib.hid (by omega)
      clear hh0
      obtain ⟨hgr, l1, hp1, hr1⟩ := HP.out
      have hll : l1.length = n := by rw [HN.out]; exact hp1.length_eq
      obtain ⟨a, ha⟩ := get_of_lt (l := l1) (k := h) (by omega)
      obtain ⟨b, hb⟩ := get_of_lt (l := l1) (k := m0) (by omega)
      obtain ⟨M, hM⟩ : ∃ M, M = wr.heap.size := ⟨_, rfl⟩
      have HgM : Hid (g < M) := Lib.hid (by rw [hM]; exact hr1.lt)
      have HML : Hid (M ≤ wr.heap.size) := Lib.hid (by omega)
      have HcA := Lib.hid (fun (j : Nat) (u : Value) (hu : a.row[j]? = some u) => hr1.cell (map_get ha) hu)
      have HcB := Lib.hid (fun (j : Nat) (u : Value) (hu : b.row[j]? = some u) => hr1.cell (map_get hb) hu)
      have HR1 := Lib.hid hr1
      have HA := Lib.hid ha
      have HB := Lib.hid hb
      have HG := Lib.hid hgr
      have HPm := Lib.hid hp1
      have HM := Lib.hid hM
      clear hr1 ha hb hgr hp1 hll hM
      have hhn : h < n := by omega
      have hon : m0 < n := by omega
      go_upto_region 17 with fail
      rw [hhe.out]
      have Con := Lib.hid (fun (x : ExtW M wr) => HC.out x.val (grown_trans HG.out (grown_below (by rw [← HM.out]; exact x.below) _)) b a)
      have ac0 : ∀ (x : ExtW M wr), x.val.cell? ⟨g, h * 9, none⟩ = some (.int .i64 a.cs) := fun x => (x.cell _ HgM.out).trans (HcA.out 0 _ rfl)
      have ac1 : ∀ (x : ExtW M wr), x.val.cell? ⟨g, h * 9 + 1, none⟩ = some (.int .i64 a.co) := fun x => (x.cell _ HgM.out).trans (HcA.out 1 _ rfl)
      have ac2 : ∀ (x : ExtW M wr), x.val.cell? ⟨g, h * 9 + 2, none⟩ = some (.int .i64 a.cf) := fun x => (x.cell _ HgM.out).trans (HcA.out 2 _ rfl)
      have ac3 : ∀ (x : ExtW M wr), x.val.cell? ⟨g, h * 9 + 3, none⟩ = some (.int .i64 a.ct) := fun x => (x.cell _ HgM.out).trans (HcA.out 3 _ rfl)
      have ac4 : ∀ (x : ExtW M wr), x.val.cell? ⟨g, h * 9 + 4, none⟩ = some (.int .i64 a.cl) := fun x => (x.cell _ HgM.out).trans (HcA.out 4 _ rfl)
      have ac5 : ∀ (x : ExtW M wr), x.val.cell? ⟨g, h * 9 + 5, none⟩ = some (.bool a.se) := fun x => (x.cell _ HgM.out).trans (HcA.out 5 _ rfl)
      have ac6 : ∀ (x : ExtW M wr), x.val.cell? ⟨g, h * 9 + 6, none⟩ = some (.bool a.ex) := fun x => (x.cell _ HgM.out).trans (HcA.out 6 _ rfl)
      have ac7 : ∀ (x : ExtW M wr), x.val.cell? ⟨g, h * 9 + 7, none⟩ = some (.int .i64 a.fi) := fun x => (x.cell _ HgM.out).trans (HcA.out 7 _ rfl)
      have ac8 : ∀ (x : ExtW M wr), x.val.cell? ⟨g, h * 9 + 8, none⟩ = some (.int .i64 a.un) := fun x => (x.cell _ HgM.out).trans (HcA.out 8 _ rfl)
      have bc0 : ∀ (x : ExtW M wr), x.val.cell? ⟨g, m0 * 9, none⟩ = some (.int .i64 b.cs) := fun x => (x.cell _ HgM.out).trans (HcB.out 0 _ rfl)
      have bc1 : ∀ (x : ExtW M wr), x.val.cell? ⟨g, m0 * 9 + 1, none⟩ = some (.int .i64 b.co) := fun x => (x.cell _ HgM.out).trans (HcB.out 1 _ rfl)
      have bc2 : ∀ (x : ExtW M wr), x.val.cell? ⟨g, m0 * 9 + 2, none⟩ = some (.int .i64 b.cf) := fun x => (x.cell _ HgM.out).trans (HcB.out 2 _ rfl)
      have bc3 : ∀ (x : ExtW M wr), x.val.cell? ⟨g, m0 * 9 + 3, none⟩ = some (.int .i64 b.ct) := fun x => (x.cell _ HgM.out).trans (HcB.out 3 _ rfl)
      have bc4 : ∀ (x : ExtW M wr), x.val.cell? ⟨g, m0 * 9 + 4, none⟩ = some (.int .i64 b.cl) := fun x => (x.cell _ HgM.out).trans (HcB.out 4 _ rfl)
      have bc5 : ∀ (x : ExtW M wr), x.val.cell? ⟨g, m0 * 9 + 5, none⟩ = some (.bool b.se) := fun x => (x.cell _ HgM.out).trans (HcB.out 5 _ rfl)
      have bc6 : ∀ (x : ExtW M wr), x.val.cell? ⟨g, m0 * 9 + 6, none⟩ = some (.bool b.ex) := fun x => (x.cell _ HgM.out).trans (HcB.out 6 _ rfl)
      have bc7 : ∀ (x : ExtW M wr), x.val.cell? ⟨g, m0 * 9 + 7, none⟩ = some (.int .i64 b.fi) := fun x => (x.cell _ HgM.out).trans (HcB.out 7 _ rfl)
      have bc8 : ∀ (x : ExtW M wr), x.val.cell? ⟨g, m0 * 9 + 8, none⟩ = some (.int .i64 b.un) := fun x => (x.cell _ HgM.out).trans (HcB.out 8 _ rfl)
      refine wp_region_ext M (by kernel_rfl) (by kernel_rfl) ?_
      repeat (go_big_quiet_step ((go_at_fn fn; exact Calls.ext_of (Con.out _) HML.out)))
      refine wpQuiet_nil ?_
      rintro _ ⟨x, rfl⟩
      clear Con ac0 ac1 ac2 ac3 ac4 ac5 ac6 ac7 ac8 bc0 bc1 bc2 bc3 bc4 bc5 bc6 bc7 bc8
      generalize hZ : z _ _ = Z
      clear hZ
      have HP2 : Hid (Perms Du.row 63 9 w g l x.val) := Lib.hid (HP.out.below (by rw [← HM.out]; exact x.below))
      by_cases hz : Z < 0
      · have d2 : decide (Z < 0) = true := decide_eq_true hz
        have d3 : (!decide (Z < 0)) = false := by rw [d2]; rfl
        rw [d3]
        clear d3
        go_wp2_with fail
        go_roundw
        case rel => exact ⟨i, h, by omega, by omega, by omega, rfl, rfl, HP2⟩
        case measure => simp [intOf]; omega
      · have d2 : decide (Z < 0) = false := decide_eq_false hz
        have d3 : (!decide (Z < 0)) = true := by rw [d2]; rfl
        rw [d3]
        clear d3
        go_wp2_with fail
        go_roundw
        case rel => exact ⟨h + 1, j, by omega, by omega, by omega, by go_num, rfl, HP2⟩
        case measure => simp [intOf]; omega
    · go_wp2_with fail
      clear hlt
      obtain ⟨wo, hwo⟩ : ∃ wo : World, wo = wr := ⟨_, rfl⟩
      subst hwo
      go_loopw [17] (fun s1 wr => ∃ (k : Nat), i ≤ k ∧ k ≤ m0 ∧ s1 = .int .i64 k ∧ Hid (Perms Du.row 63 9 w g l wr)) (fun s1 _ => (intOf s1).toNat)
      case atStart => exact ⟨m0, by omega, by omega, rfl, HP⟩
      case round =>
        clear HP
        obtain ⟨k, hk1, hk2, rfl, HP⟩ := hrel
        by_cases hlt : i < k
        · obtain ⟨q, rfl⟩ : ∃ q, k = q + 1 := ⟨k - 1, by omega⟩
          have hkn : q < n := by omega
          have hkn2 : q + 1 < n := by omega
          have hw1 : IntKind.i64.wrap (((q + 1 : Nat) : Int) - 1) = (q : Int) := by rw [IntWalk.i64_in _ (by omega)]; omega
          have d1 : decide ((i : Int) < (q : Int) + 1) = true := decide_eq_true (by omega)
          obtain ⟨hgr, l1, hp1, hr1⟩ := HP.out
          have hll : l1.length = n := by rw [HN.out]; exact hp1.length_eq
          obtain ⟨a, ha⟩ := get_of_lt (l := l1) (k := q + 1) (by omega)
          obtain ⟨b, hb⟩ := get_of_lt (l := l1) (k := q) (by omega)
          obtain ⟨M, hM⟩ : ∃ M, M = wr.heap.size := ⟨_, rfl⟩
          have HgM : Hid (g < M) := Lib.hid (by rw [hM]; exact hr1.lt)
          have HML : Hid (M ≤ wr.heap.size) := Lib.hid (by omega)
          have HcA := Lib.hid (fun (j : Nat) (u : Value) (hu : a.row[j]? = some u) => hr1.cell (map_get ha) hu)
          have HcB := Lib.hid (fun (j : Nat) (u : Value) (hu : b.row[j]? = some u) => hr1.cell (map_get hb) hu)
          have HR1 := Lib.hid hr1
          have HA := Lib.hid ha
          have HB := Lib.hid hb
          have HG := Lib.hid hgr
          have HPm := Lib.hid hp1
          have HM := Lib.hid hM
          clear hr1 ha hb hgr hp1 hll hM
          have HRw : Hid (RowsAt wr g 63 9 (l1.map Du.row)) := Lib.hid HR1.out
          have HGw : Hid (w.grownBy wr (some g)) := Lib.hid HG.out
          go_upto_region 23 with fail
          refine wp_region_rough (M) 18 [15, 17] #[false, false, false, false, false, false, false, false, false, false, false, false, false, false, false, false, false, false] (by kernel_rfl) rfl rfl ?_
          generalize hwd : World.drew _ = wd
          have HRd : Hid (RowsAt wd g 63 9 (l1.map Du.row)) := Lib.hid (by rw [← hwd]; exact HRw.out.keep rfl)
          have HGd : Hid (w.grownBy wd (some g)) := Lib.hid (by rw [← hwd]; exact grown_trans HGw.out (grown_drew _ _))
          clear hwd
          have HcAd := Lib.hid (fun (j : Nat) (u : Value) (hu : a.row[j]? = some u) => HRd.out.cell (map_get HA.out) hu)
          have HcBd := Lib.hid (fun (j : Nat) (u : Value) (hu : b.row[j]? = some u) => HRd.out.cell (map_get HB.out) hu)
          have ac0 : ∀ (x : ExtW M wd), x.val.cell? ⟨g, (q + 1) * 9, none⟩ = some (.int .i64 a.cs) := fun x => (x.cell _ HgM.out).trans (HcAd.out 0 _ rfl)
          have ac1 : ∀ (x : ExtW M wd), x.val.cell? ⟨g, (q + 1) * 9 + 1, none⟩ = some (.int .i64 a.co) := fun x => (x.cell _ HgM.out).trans (HcAd.out 1 _ rfl)
          have ac2 : ∀ (x : ExtW M wd), x.val.cell? ⟨g, (q + 1) * 9 + 2, none⟩ = some (.int .i64 a.cf) := fun x => (x.cell _ HgM.out).trans (HcAd.out 2 _ rfl)
          have ac3 : ∀ (x : ExtW M wd), x.val.cell? ⟨g, (q + 1) * 9 + 3, none⟩ = some (.int .i64 a.ct) := fun x => (x.cell _ HgM.out).trans (HcAd.out 3 _ rfl)
          have ac4 : ∀ (x : ExtW M wd), x.val.cell? ⟨g, (q + 1) * 9 + 4, none⟩ = some (.int .i64 a.cl) := fun x => (x.cell _ HgM.out).trans (HcAd.out 4 _ rfl)
          have ac5 : ∀ (x : ExtW M wd), x.val.cell? ⟨g, (q + 1) * 9 + 5, none⟩ = some (.bool a.se) := fun x => (x.cell _ HgM.out).trans (HcAd.out 5 _ rfl)
          have ac6 : ∀ (x : ExtW M wd), x.val.cell? ⟨g, (q + 1) * 9 + 6, none⟩ = some (.bool a.ex) := fun x => (x.cell _ HgM.out).trans (HcAd.out 6 _ rfl)
          have ac7 : ∀ (x : ExtW M wd), x.val.cell? ⟨g, (q + 1) * 9 + 7, none⟩ = some (.int .i64 a.fi) := fun x => (x.cell _ HgM.out).trans (HcAd.out 7 _ rfl)
          have ac8 : ∀ (x : ExtW M wd), x.val.cell? ⟨g, (q + 1) * 9 + 8, none⟩ = some (.int .i64 a.un) := fun x => (x.cell _ HgM.out).trans (HcAd.out 8 _ rfl)
          have bc0 : ∀ (x : ExtW M wd), x.val.cell? ⟨g, q * 9, none⟩ = some (.int .i64 b.cs) := fun x => (x.cell _ HgM.out).trans (HcBd.out 0 _ rfl)
          have bc1 : ∀ (x : ExtW M wd), x.val.cell? ⟨g, q * 9 + 1, none⟩ = some (.int .i64 b.co) := fun x => (x.cell _ HgM.out).trans (HcBd.out 1 _ rfl)
          have bc2 : ∀ (x : ExtW M wd), x.val.cell? ⟨g, q * 9 + 2, none⟩ = some (.int .i64 b.cf) := fun x => (x.cell _ HgM.out).trans (HcBd.out 2 _ rfl)
          have bc3 : ∀ (x : ExtW M wd), x.val.cell? ⟨g, q * 9 + 3, none⟩ = some (.int .i64 b.ct) := fun x => (x.cell _ HgM.out).trans (HcBd.out 3 _ rfl)
          have bc4 : ∀ (x : ExtW M wd), x.val.cell? ⟨g, q * 9 + 4, none⟩ = some (.int .i64 b.cl) := fun x => (x.cell _ HgM.out).trans (HcBd.out 4 _ rfl)
          have bc5 : ∀ (x : ExtW M wd), x.val.cell? ⟨g, q * 9 + 5, none⟩ = some (.bool b.se) := fun x => (x.cell _ HgM.out).trans (HcBd.out 5 _ rfl)
          have bc6 : ∀ (x : ExtW M wd), x.val.cell? ⟨g, q * 9 + 6, none⟩ = some (.bool b.ex) := fun x => (x.cell _ HgM.out).trans (HcBd.out 6 _ rfl)
          have bc7 : ∀ (x : ExtW M wd), x.val.cell? ⟨g, q * 9 + 7, none⟩ = some (.int .i64 b.fi) := fun x => (x.cell _ HgM.out).trans (HcBd.out 7 _ rfl)
          have bc8 : ∀ (x : ExtW M wd), x.val.cell? ⟨g, q * 9 + 8, none⟩ = some (.int .i64 b.un) := fun x => (x.cell _ HgM.out).trans (HcBd.out 8 _ rfl)
          refine anyR_take0 0 _ (nth0) rfl (by kernel_rfl) (by kernel_rfl) (by kernel_rfl) (l' := #[true, false, false, false, false, false, false, false, false, false, false, false, false, false, false, false, false, false]) rfl rfl ?_; intro K hK; go_big_quiet_op; go_big_quiet_on
          refine anyR_take0 1 _ (nthS (nth0)) rfl (by kernel_rfl) (by kernel_rfl) (by kernel_rfl) (l' := #[true, true, false, false, false, false, false, false, false, false, false, false, false, false, false, false, false, false]) rfl rfl ?_; intro K hK; go_big_quiet_op; go_big_quiet_on
          refine anyR_take0 2 _ (nthS (nthS (nth0))) rfl (by kernel_rfl) (by kernel_rfl) (by kernel_rfl) (l' := #[true, true, true, false, false, false, false, false, false, false, false, false, false, false, false, false, false, false]) rfl rfl ?_; intro K hK; go_big_quiet_op; go_big_quiet_on
          refine anyR_take0 3 _ (nthS (nthS (nthS (nth0)))) rfl (by kernel_rfl) (by kernel_rfl) (by kernel_rfl) (l' := #[true, true, true, true, false, false, false, false, false, false, false, false, false, false, false, false, false, false]) rfl rfl ?_; intro K hK; go_big_quiet_op; go_big_quiet_on
          refine anyR_take0 4 _ (nthS (nthS (nthS (nthS (nth0))))) rfl (by kernel_rfl) (by kernel_rfl) (by kernel_rfl) (l' := #[true, true, true, true, true, false, false, false, false, false, false, false, false, false, false, false, false, false]) rfl rfl ?_; intro K hK; go_big_quiet_op; go_big_quiet_on
          refine anyR_take0 5 _ (nthS (nthS (nthS (nthS (nthS (nth0)))))) rfl (by kernel_rfl) (by kernel_rfl) (by kernel_rfl) (l' := #[true, true, true, true, true, true, false, false, false, false, false, false, false, false, false, false, false, false]) rfl rfl ?_; intro K hK; go_big_quiet_op; go_big_quiet_on
          refine anyR_take0 6 _ (nthS (nthS (nthS (nthS (nthS (nthS (nth0))))))) rfl (by kernel_rfl) (by kernel_rfl) (by kernel_rfl) (l' := #[true, true, true, true, true, true, true, false, false, false, false, false, false, false, false, false, false, false]) rfl rfl ?_; intro K hK; go_big_quiet_op; go_big_quiet_on
          refine anyR_take0 7 _ (nthS (nthS (nthS (nthS (nthS (nthS (nthS (nth0)))))))) rfl (by kernel_rfl) (by kernel_rfl) (by kernel_rfl) (l' := #[true, true, true, true, true, true, true, true, false, false, false, false, false, false, false, false, false, false]) rfl rfl ?_; intro K hK; go_big_quiet_op; go_big_quiet_on
          refine anyR_take0 8 _ (nthS (nthS (nthS (nthS (nthS (nthS (nthS (nthS (nth0))))))))) rfl (by kernel_rfl) (by kernel_rfl) (by kernel_rfl) (l' := #[true, true, true, true, true, true, true, true, true, false, false, false, false, false, false, false, false, false]) rfl rfl ?_; intro K hK; go_big_quiet_op; go_big_quiet_on
          refine anyR_take 9 _ (nthS (nthS (nthS (nthS (nthS (nthS (nthS (nthS (nthS (nth0)))))))))) rfl (by kernel_rfl) (by kernel_rfl) (by kernel_rfl) (by kernel_rfl) (l' := #[true, true, true, true, true, true, true, true, true, true, false, false, false, false, false, false, false, false]) rfl rfl ?_; intro K hK; go_big_quiet_op; go_big_quiet_on
          refine anyR_take0 10 _ (nthS (nthS (nthS (nthS (nthS (nthS (nthS (nthS (nthS (nthS (nth0))))))))))) rfl (by kernel_rfl) (by kernel_rfl) (by kernel_rfl) (l' := #[true, true, true, true, true, true, true, true, true, true, true, false, false, false, false, false, false, false]) rfl rfl ?_; intro K hK; go_big_quiet_op; go_big_quiet_on
          refine anyR_take0 11 _ (nthS (nthS (nthS (nthS (nthS (nthS (nthS (nthS (nthS (nthS (nthS (nth0)))))))))))) rfl (by kernel_rfl) (by kernel_rfl) (by kernel_rfl) (l' := #[true, true, true, true, true, true, true, true, true, true, true, true, false, false, false, false, false, false]) rfl rfl ?_; intro K hK; go_big_quiet_op; go_big_quiet_on
          refine anyR_take0 12 _ (nthS (nthS (nthS (nthS (nthS (nthS (nthS (nthS (nthS (nthS (nthS (nthS (nth0))))))))))))) rfl (by kernel_rfl) (by kernel_rfl) (by kernel_rfl) (l' := #[true, true, true, true, true, true, true, true, true, true, true, true, true, false, false, false, false, false]) rfl rfl ?_; intro K hK; go_big_quiet_op; go_big_quiet_on
          refine anyR_take 13 _ (nthS (nthS (nthS (nthS (nthS (nthS (nthS (nthS (nthS (nthS (nthS (nthS (nthS (nth0)))))))))))))) rfl (by kernel_rfl) (by kernel_rfl) (by kernel_rfl) (by kernel_rfl) (l' := #[true, true, true, true, true, true, true, true, true, true, true, true, true, true, false, false, false, false]) rfl rfl ?_; intro K hK; go_big_quiet_op; go_big_quiet_on
          refine anyR_take0 14 _ (nthS (nthS (nthS (nthS (nthS (nthS (nthS (nthS (nthS (nthS (nthS (nthS (nthS (nthS (nth0))))))))))))))) rfl (by kernel_rfl) (by kernel_rfl) (by kernel_rfl) (l' := #[true, true, true, true, true, true, true, true, true, true, true, true, true, true, true, false, false, false]) rfl rfl ?_; intro K hK; go_big_quiet_op; go_big_quiet_on
          refine anyR_one 15 _ (nthS (nthS (nthS (nthS (nthS (nthS (nthS (nthS (nthS (nthS (nthS (nthS (nthS (nthS (nthS (nth0)))))))))))))))) (by kernel_rfl) (l' := #[true, true, true, true, true, true, true, true, true, true, true, true, true, true, true, true, false, false]) rfl ?_
          clear ac0 ac1 ac2 ac3 ac4 ac5 ac6 ac7 ac8 bc0 bc1 bc2 bc3 bc4 bc5 bc6 bc7 bc8
          refine wpList_store_mid rfl 63 (.tmp 127) (.tmp 122) rfl g ((q + 1) * 9) #[.int .i64 b.cs, .int .i64 b.co, .int .i64 b.cf, .int .i64 b.ct, .int .i64 b.cl, .bool b.se, .bool b.ex, .int .i64 b.fi, .int .i64 b.un] rfl rfl (HRd.out.there (by rw [List.length_map]; exact (List.getElem?_eq_some_iff.1 HA.out).1)) (by kernel_rfl) (oneDa b) ?_
          generalize hW : World.setCells _ _ _ _ = W1
          have HR2 : Hid (RowsAt W1 g 63 9 ((l1.map Du.row).set ((q + 1)) b.row)) := Lib.hid (by rw [← hW]; exact HRd.out.put (by rw [List.length_map]; exact (List.getElem?_eq_some_iff.1 HA.out).1) rfl)
          have hb1 : Below 0 wd W1 := by rw [← hW]; exact below_setCells _ _ _ _
          have HW1 := Lib.hid hW
          clear hW
          go_wp2_with fail
          refine OneR_rough (by kernel_rfl) (hb1) ?_
          refine anyR_take0 16 _ (nthS (nthS (nthS (nthS (nthS (nthS (nthS (nthS (nthS (nthS (nthS (nthS (nthS (nthS (nthS (nthS (nth0))))))))))))))))) rfl (by kernel_rfl) (by kernel_rfl) (by kernel_rfl) (l' := #[true, true, true, true, true, true, true, true, true, true, true, true, true, true, true, true, true, false]) rfl rfl ?_; intro K hK; go_big_quiet_op; go_big_quiet_on
          refine anyR_one 17 _ (nthS (nthS (nthS (nthS (nthS (nthS (nthS (nthS (nthS (nthS (nthS (nthS (nthS (nthS (nthS (nthS (nthS (nth0)))))))))))))))))) (by kernel_rfl) (l' := #[true, true, true, true, true, true, true, true, true, true, true, true, true, true, true, true, true, true]) rfl ?_
          refine wpList_store_mid rfl 63 (.tmp 128) (.tmp 126) rfl g (q * 9) #[.int .i64 a.cs, .int .i64 a.co, .int .i64 a.cf, .int .i64 a.ct, .int .i64 a.cl, .bool a.se, .bool a.ex, .int .i64 a.fi, .int .i64 a.un] rfl rfl (HR2.out.there (by rw [List.length_set, List.length_map]; exact (List.getElem?_eq_some_iff.1 HB.out).1)) (by kernel_rfl) (oneDa a) ?_
          generalize hW : World.setCells _ _ _ _ = W2
          have HP2 : Hid (Perms Du.row 63 9 w g l W2) := Lib.hid (by rw [← hW, ← HW1.out]; exact Perms.swap Du.row_len HGd.out HPm.out HRd.out HA.out HB.out)
          have hb2 : Below 0 W1 W2 := by rw [← hW]; exact below_setCells _ _ _ _
          clear hW
          go_wp2_with fail
          refine OneR_rough (by kernel_rfl) (hb2) ?_
          refine anyR_end (by kernel_rfl) ?_
          clear hw1 d1
          go_wp2_with fail
          go_roundw
          case rel => exact ⟨q, by omega, by omega, by go_num, HP2⟩
          case measure => simp [intOf]
        · go_wp2_with fail
          exact bodyPost_ret (v := .tuple #[]) (by simp [results, Try.results76, go_sem]) rfl ⟨rfl, HP.out⟩
end Go.Proofs.Ytepamedbbbfjkaa
