/- Walks: package slices' stable sort of duties exchanges rows only: ranges and rotations. -/
import Derived.Test.YtepamedbbbfjkaaSoD1
namespace Go.Proofs.Ytepamedbbbfjkaa
open Go.RowKit
open Nd

set_option maxRecDepth 100000 in
set_option maxHeartbeats 8000000 in
theorem swapr_any (z : Du → Du → Int) (fn : FuncId) (cb : Array Value) (l : List Du) (g c a0 b0 q : Nat) (w : World) (eg : ∀ args w, (callFunc fn args).run Try.prog w = .ok (.enter fn args) w)
    (hr : RowsAt w g 63 9 (l.map Du.row)) (ha : a0 + q ≤ l.length) (hb : b0 + q ≤ l.length) (hl : l.length ≤ 1000) (hc : CmpD z fn cb g w) :
    Calls Try.prog 82 #[.slice (some ⟨g, 0, none⟩) l.length c, .int .i64 a0, .int .i64 b0, .int .i64 q, .func (.func fn) #[] cb] w fun e w' => e = .returned (.tuple #[]) ∧ Perms Du.row 63 9 w g l w' := by
  obtain ⟨n, hn⟩ : ∃ n, n = l.length := ⟨_, rfl⟩
  rw [← hn] at ha hb hl ⊢
  have HN := Lib.hid hn
  have HC := Lib.hid hc
  have HS := Lib.hid (Perms.start hr)
  clear hn hc hr
  go_enter Try.func82, Try.ntmps82
  go_wp2_with fail
  go_loopw [10] (fun i wr => ∃ (k : Nat), k ≤ q ∧ i = .int .i64 k ∧ Hid (Perms Du.row 63 9 w g l wr)) (fun i _ => q - (intOf i).toNat)
  case atStart => exact ⟨0, by omega, rfl, HS⟩
  case round =>
    clear HS
    obtain ⟨k, hk, rfl, HP⟩ := hrel
    by_cases hlt : k < q
    · obtain ⟨I, hI⟩ : ∃ I, I = a0 + k := ⟨_, rfl⟩
      obtain ⟨J, hJ⟩ : ∃ J, J = b0 + k := ⟨_, rfl⟩
      have hIn : I < n := by omega
      have hJn : J < n := by omega
      have hw1 : IntKind.i64.wrap ((a0 : Int) + (k : Int)) = (I : Int) := by rw [IntWalk.i64_in _ (by omega)]; omega
      have hw2 : IntKind.i64.wrap ((b0 : Int) + (k : Int)) = (J : Int) := by rw [IntWalk.i64_in _ (by omega)]; omega
      clear hI hJ
      obtain ⟨hgr, l1, hp1, hr1⟩ := HP.out
      have hll : l1.length = n := by rw [HN.out]; exact hp1.length_eq
      obtain ⟨a, ha⟩ := get_of_lt (l := l1) (k := I) (by omega)
      obtain ⟨b, hb⟩ := get_of_lt (l := l1) (k := J) (by omega)
      obtain ⟨M, hM⟩ : ∃ M, M = wr.heap.size := ⟨_, rfl⟩
      have HgM : Hid (g < M) := Lib.hid (by rw [hM]; exact hr1.lt)
      have HML : Hid (M ≤ wr.heap.size) := Lib.hid (by omega)
      have HcA := Lib.hid (fun (j : Nat) (u : Value) (hu : a.row[j]? = some u) => hr1.cell (map_get ha) hu)
      have HcB := Lib.hid (fun (j : Nat) (u : Value) (hu : b.row[j]? = some u) => hr1.cell (map_get hb) hu)
      have HR1 := Lib.hid hr1
      have HA := Lib.hid ha
      have HB := Lib.hid hb
      have HG := Lib.hid hgr
      have HPm := Lib.hid hp1
      have HM := Lib.hid hM
      clear hr1 ha hb hgr hp1 hll hM
      have HRw : Hid (RowsAt wr g 63 9 (l1.map Du.row)) := Lib.hid HR1.out
      have HGw : Hid (w.grownBy wr (some g)) := Lib.hid HG.out
      go_upto_region 3 with fail
      refine wp_region_rough (M) 24 [21, 23] #[false, false, false, false, false, false, false, false, false, false, false, false, false, false, false, false, false, false, false, false, false, false, false, false] (by kernel_rfl) rfl rfl ?_
      generalize hwd : World.drew _ = wd
      have HRd : Hid (RowsAt wd g 63 9 (l1.map Du.row)) := Lib.hid (by rw [← hwd]; exact HRw.out.keep rfl)
      have HGd : Hid (w.grownBy wd (some g)) := Lib.hid (by rw [← hwd]; exact grown_trans HGw.out (grown_drew _ _))
      clear hwd
      have HcAd := Lib.hid (fun (j : Nat) (u : Value) (hu : a.row[j]? = some u) => HRd.out.cell (map_get HA.out) hu)
      have HcBd := Lib.hid (fun (j : Nat) (u : Value) (hu : b.row[j]? = some u) => HRd.out.cell (map_get HB.out) hu)
      have ac0 : ∀ (x : ExtW M wd), x.val.cell? ⟨g, I * 9, none⟩ = some (.int .i64 a.cs) := fun x => (x.cell _ HgM.out).trans (HcAd.out 0 _ rfl)
      have ac1 : ∀ (x : ExtW M wd), x.val.cell? ⟨g, I * 9 + 1, none⟩ = some (.int .i64 a.co) := fun x => (x.cell _ HgM.out).trans (HcAd.out 1 _ rfl)
      have ac2 : ∀ (x : ExtW M wd), x.val.cell? ⟨g, I * 9 + 2, none⟩ = some (.int .i64 a.cf) := fun x => (x.cell _ HgM.out).trans (HcAd.out 2 _ rfl)
      have ac3 : ∀ (x : ExtW M wd), x.val.cell? ⟨g, I * 9 + 3, none⟩ = some (.int .i64 a.ct) := fun x => (x.cell _ HgM.out).trans (HcAd.out 3 _ rfl)
      have ac4 : ∀ (x : ExtW M wd), x.val.cell? ⟨g, I * 9 + 4, none⟩ = some (.int .i64 a.cl) := fun x => (x.cell _ HgM.out).trans (HcAd.out 4 _ rfl)
      have ac5 : ∀ (x : ExtW M wd), x.val.cell? ⟨g, I * 9 + 5, none⟩ = some (.bool a.se) := fun x => (x.cell _ HgM.out).trans (HcAd.out 5 _ rfl)
      have ac6 : ∀ (x : ExtW M wd), x.val.cell? ⟨g, I * 9 + 6, none⟩ = some (.bool a.ex) := fun x => (x.cell _ HgM.out).trans (HcAd.out 6 _ rfl)
      have ac7 : ∀ (x : ExtW M wd), x.val.cell? ⟨g, I * 9 + 7, none⟩ = some (.int .i64 a.fi) := fun x => (x.cell _ HgM.out).trans (HcAd.out 7 _ rfl)
      have ac8 : ∀ (x : ExtW M wd), x.val.cell? ⟨g, I * 9 + 8, none⟩ = some (.int .i64 a.un) := fun x => (x.cell _ HgM.out).trans (HcAd.out 8 _ rfl)
      have bc0 : ∀ (x : ExtW M wd), x.val.cell? ⟨g, J * 9, none⟩ = some (.int .i64 b.cs) := fun x => (x.cell _ HgM.out).trans (HcBd.out 0 _ rfl)
      have bc1 : ∀ (x : ExtW M wd), x.val.cell? ⟨g, J * 9 + 1, none⟩ = some (.int .i64 b.co) := fun x => (x.cell _ HgM.out).trans (HcBd.out 1 _ rfl)
      have bc2 : ∀ (x : ExtW M wd), x.val.cell? ⟨g, J * 9 + 2, none⟩ = some (.int .i64 b.cf) := fun x => (x.cell _ HgM.out).trans (HcBd.out 2 _ rfl)
      have bc3 : ∀ (x : ExtW M wd), x.val.cell? ⟨g, J * 9 + 3, none⟩ = some (.int .i64 b.ct) := fun x => (x.cell _ HgM.out).trans (HcBd.out 3 _ rfl)
      have bc4 : ∀ (x : ExtW M wd), x.val.cell? ⟨g, J * 9 + 4, none⟩ = some (.int .i64 b.cl) := fun x => (x.cell _ HgM.out).trans (HcBd.out 4 _ rfl)
      have bc5 : ∀ (x : ExtW M wd), x.val.cell? ⟨g, J * 9 + 5, none⟩ = some (.bool b.se) := fun x => (x.cell _ HgM.out).trans (HcBd.out 5 _ rfl)
      have bc6 : ∀ (x : ExtW M wd), x.val.cell? ⟨g, J * 9 + 6, none⟩ = some (.bool b.ex) := fun x => (x.cell _ HgM.out).trans (HcBd.out 6 _ rfl)
      have bc7 : ∀ (x : ExtW M wd), x.val.cell? ⟨g, J * 9 + 7, none⟩ = some (.int .i64 b.fi) := fun x => (x.cell _ HgM.out).trans (HcBd.out 7 _ rfl)
      have bc8 : ∀ (x : ExtW M wd), x.val.cell? ⟨g, J * 9 + 8, none⟩ = some (.int .i64 b.un) := fun x => (x.cell _ HgM.out).trans (HcBd.out 8 _ rfl)
      refine anyR_take0 0 _ (nth0) rfl (by kernel_rfl) (by kernel_rfl) (by kernel_rfl) (l' := #[true, false, false, false, false, false, false, false, false, false, false, false, false, false, false, false, false, false, false, false, false, false, false, false]) rfl rfl ?_; intro K hK; go_big_quiet_op; go_big_quiet_on
      refine anyR_take0 1 _ (nthS (nth0)) rfl (by kernel_rfl) (by kernel_rfl) (by kernel_rfl) (l' := #[true, true, false, false, false, false, false, false, false, false, false, false, false, false, false, false, false, false, false, false, false, false, false, false]) rfl rfl ?_; intro K hK; go_big_quiet_op; go_big_quiet_on
      refine anyR_take0 2 _ (nthS (nthS (nth0))) rfl (by kernel_rfl) (by kernel_rfl) (by kernel_rfl) (l' := #[true, true, true, false, false, false, false, false, false, false, false, false, false, false, false, false, false, false, false, false, false, false, false, false]) rfl rfl ?_; intro K hK; go_big_quiet_op; go_big_quiet_on
      refine anyR_take0 3 _ (nthS (nthS (nthS (nth0)))) rfl (by kernel_rfl) (by kernel_rfl) (by kernel_rfl) (l' := #[true, true, true, true, false, false, false, false, false, false, false, false, false, false, false, false, false, false, false, false, false, false, false, false]) rfl rfl ?_; intro K hK; go_big_quiet_op; go_big_quiet_on
      refine anyR_take0 4 _ (nthS (nthS (nthS (nthS (nth0))))) rfl (by kernel_rfl) (by kernel_rfl) (by kernel_rfl) (l' := #[true, true, true, true, true, false, false, false, false, false, false, false, false, false, false, false, false, false, false, false, false, false, false, false]) rfl rfl ?_; intro K hK; go_big_quiet_op; go_big_quiet_on
      refine anyR_take0 5 _ (nthS (nthS (nthS (nthS (nthS (nth0)))))) rfl (by kernel_rfl) (by kernel_rfl) (by kernel_rfl) (l' := #[true, true, true, true, true, true, false, false, false, false, false, false, false, false, false, false, false, false, false, false, false, false, false, false]) rfl rfl ?_; intro K hK; go_big_quiet_op; go_big_quiet_on
      refine anyR_take0 6 _ (nthS (nthS (nthS (nthS (nthS (nthS (nth0))))))) rfl (by kernel_rfl) (by kernel_rfl) (by kernel_rfl) (l' := #[true, true, true, true, true, true, true, false, false, false, false, false, false, false, false, false, false, false, false, false, false, false, false, false]) rfl rfl ?_; intro K hK; go_big_quiet_op; go_big_quiet_on
      refine anyR_take0 7 _ (nthS (nthS (nthS (nthS (nthS (nthS (nthS (nth0)))))))) rfl (by kernel_rfl) (by kernel_rfl) (by kernel_rfl) (l' := #[true, true, true, true, true, true, true, true, false, false, false, false, false, false, false, false, false, false, false, false, false, false, false, false]) rfl rfl ?_; intro K hK; go_big_quiet_op; go_big_quiet_on
      refine anyR_take0 8 _ (nthS (nthS (nthS (nthS (nthS (nthS (nthS (nthS (nth0))))))))) rfl (by kernel_rfl) (by kernel_rfl) (by kernel_rfl) (l' := #[true, true, true, true, true, true, true, true, true, false, false, false, false, false, false, false, false, false, false, false, false, false, false, false]) rfl rfl ?_; intro K hK; go_big_quiet_op; go_big_quiet_on
      refine anyR_take0 9 _ (nthS (nthS (nthS (nthS (nthS (nthS (nthS (nthS (nthS (nth0)))))))))) rfl (by kernel_rfl) (by kernel_rfl) (by kernel_rfl) (l' := #[true, true, true, true, true, true, true, true, true, true, false, false, false, false, false, false, false, false, false, false, false, false, false, false]) rfl rfl ?_; intro K hK; go_big_quiet_op; go_big_quiet_on
      refine anyR_take0 10 _ (nthS (nthS (nthS (nthS (nthS (nthS (nthS (nthS (nthS (nthS (nth0))))))))))) rfl (by kernel_rfl) (by kernel_rfl) (by kernel_rfl) (l' := #[true, true, true, true, true, true, true, true, true, true, true, false, false, false, false, false, false, false, false, false, false, false, false, false]) rfl rfl ?_; intro K hK; go_big_quiet_op; go_big_quiet_on
      refine anyR_take0 11 _ (nthS (nthS (nthS (nthS (nthS (nthS (nthS (nthS (nthS (nthS (nthS (nth0)))))))))))) rfl (by kernel_rfl) (by kernel_rfl) (by kernel_rfl) (l' := #[true, true, true, true, true, true, true, true, true, true, true, true, false, false, false, false, false, false, false, false, false, false, false, false]) rfl rfl ?_; intro K hK; go_big_quiet_op; go_big_quiet_on
      refine anyR_take0 12 _ (nthS (nthS (nthS (nthS (nthS (nthS (nthS (nthS (nthS (nthS (nthS (nthS (nth0))))))))))))) rfl (by kernel_rfl) (by kernel_rfl) (by kernel_rfl) (l' := #[true, true, true, true, true, true, true, true, true, true, true, true, true, false, false, false, false, false, false, false, false, false, false, false]) rfl rfl ?_; intro K hK; go_big_quiet_op; go_big_quiet_on
      refine anyR_take 13 _ (nthS (nthS (nthS (nthS (nthS (nthS (nthS (nthS (nthS (nthS (nthS (nthS (nthS (nth0)))))))))))))) rfl (by kernel_rfl) (by kernel_rfl) (by kernel_rfl) (by kernel_rfl) (l' := #[true, true, true, true, true, true, true, true, true, true, true, true, true, true, false, false, false, false, false, false, false, false, false, false]) rfl rfl ?_; intro K hK; go_big_quiet_op; go_big_quiet_on
      refine anyR_take0 14 _ (nthS (nthS (nthS (nthS (nthS (nthS (nthS (nthS (nthS (nthS (nthS (nthS (nthS (nthS (nth0))))))))))))))) rfl (by kernel_rfl) (by kernel_rfl) (by kernel_rfl) (l' := #[true, true, true, true, true, true, true, true, true, true, true, true, true, true, true, false, false, false, false, false, false, false, false, false]) rfl rfl ?_; intro K hK; go_big_quiet_op; go_big_quiet_on
      refine anyR_take0 15 _ (nthS (nthS (nthS (nthS (nthS (nthS (nthS (nthS (nthS (nthS (nthS (nthS (nthS (nthS (nthS (nth0)))))))))))))))) rfl (by kernel_rfl) (by kernel_rfl) (by kernel_rfl) (l' := #[true, true, true, true, true, true, true, true, true, true, true, true, true, true, true, true, false, false, false, false, false, false, false, false]) rfl rfl ?_; intro K hK; go_big_quiet_op; go_big_quiet_on
      refine anyR_take0 16 _ (nthS (nthS (nthS (nthS (nthS (nthS (nthS (nthS (nthS (nthS (nthS (nthS (nthS (nthS (nthS (nthS (nth0))))))))))))))))) rfl (by kernel_rfl) (by kernel_rfl) (by kernel_rfl) (l' := #[true, true, true, true, true, true, true, true, true, true, true, true, true, true, true, true, true, false, false, false, false, false, false, false]) rfl rfl ?_; intro K hK; go_big_quiet_op; go_big_quiet_on
      refine anyR_take0 17 _ (nthS (nthS (nthS (nthS (nthS (nthS (nthS (nthS (nthS (nthS (nthS (nthS (nthS (nthS (nthS (nthS (nthS (nth0)))))))))))))))))) rfl (by kernel_rfl) (by kernel_rfl) (by kernel_rfl) (l' := #[true, true, true, true, true, true, true, true, true, true, true, true, true, true, true, true, true, true, false, false, false, false, false, false]) rfl rfl ?_; intro K hK; go_big_quiet_op; go_big_quiet_on
      refine anyR_take0 18 _ (nthS (nthS (nthS (nthS (nthS (nthS (nthS (nthS (nthS (nthS (nthS (nthS (nthS (nthS (nthS (nthS (nthS (nthS (nth0))))))))))))))))))) rfl (by kernel_rfl) (by kernel_rfl) (by kernel_rfl) (l' := #[true, true, true, true, true, true, true, true, true, true, true, true, true, true, true, true, true, true, true, false, false, false, false, false]) rfl rfl ?_; intro K hK; go_big_quiet_op; go_big_quiet_on
      refine anyR_take 19 _ (nthS (nthS (nthS (nthS (nthS (nthS (nthS (nthS (nthS (nthS (nthS (nthS (nthS (nthS (nthS (nthS (nthS (nthS (nthS (nth0)))))))))))))))))))) rfl (by kernel_rfl) (by kernel_rfl) (by kernel_rfl) (by kernel_rfl) (l' := #[true, true, true, true, true, true, true, true, true, true, true, true, true, true, true, true, true, true, true, true, false, false, false, false]) rfl rfl ?_; intro K hK; go_big_quiet_op; go_big_quiet_on
      refine anyR_take0 20 _ (nthS (nthS (nthS (nthS (nthS (nthS (nthS (nthS (nthS (nthS (nthS (nthS (nthS (nthS (nthS (nthS (nthS (nthS (nthS (nthS (nth0))))))))))))))))))))) rfl (by kernel_rfl) (by kernel_rfl) (by kernel_rfl) (l' := #[true, true, true, true, true, true, true, true, true, true, true, true, true, true, true, true, true, true, true, true, true, false, false, false]) rfl rfl ?_; intro K hK; go_big_quiet_op; go_big_quiet_on
      refine anyR_one 21 _ (nthS (nthS (nthS (nthS (nthS (nthS (nthS (nthS (nthS (nthS (nthS (nthS (nthS (nthS (nthS (nthS (nthS (nthS (nthS (nthS (nthS (nth0)))))))))))))))))))))) (by kernel_rfl) (l' := #[true, true, true, true, true, true, true, true, true, true, true, true, true, true, true, true, true, true, true, true, true, true, false, false]) rfl ?_
      clear ac0 ac1 ac2 ac3 ac4 ac5 ac6 ac7 ac8 bc0 bc1 bc2 bc3 bc4 bc5 bc6 bc7 bc8
      refine wpList_store_mid rfl 63 (.tmp 36) (.tmp 29) rfl g (I * 9) #[.int .i64 b.cs, .int .i64 b.co, .int .i64 b.cf, .int .i64 b.ct, .int .i64 b.cl, .bool b.se, .bool b.ex, .int .i64 b.fi, .int .i64 b.un] rfl rfl (HRd.out.there (by rw [List.length_map]; exact (List.getElem?_eq_some_iff.1 HA.out).1)) (by kernel_rfl) (oneDa b) ?_
      generalize hW : World.setCells _ _ _ _ = W1
      have HR2 : Hid (RowsAt W1 g 63 9 ((l1.map Du.row).set (I) b.row)) := Lib.hid (by rw [← hW]; exact HRd.out.put (by rw [List.length_map]; exact (List.getElem?_eq_some_iff.1 HA.out).1) rfl)
      have hb1 : Below 0 wd W1 := by rw [← hW]; exact below_setCells _ _ _ _
      have HW1 := Lib.hid hW
      clear hW
      go_wp2_with fail
      refine OneR_rough (by kernel_rfl) (hb1) ?_
      refine anyR_take0 22 _ (nthS (nthS (nthS (nthS (nthS (nthS (nthS (nthS (nthS (nthS (nthS (nthS (nthS (nthS (nthS (nthS (nthS (nthS (nthS (nthS (nthS (nthS (nth0))))))))))))))))))))))) rfl (by kernel_rfl) (by kernel_rfl) (by kernel_rfl) (l' := #[true, true, true, true, true, true, true, true, true, true, true, true, true, true, true, true, true, true, true, true, true, true, true, false]) rfl rfl ?_; intro K hK; go_big_quiet_op; go_big_quiet_on
      refine anyR_one 23 _ (nthS (nthS (nthS (nthS (nthS (nthS (nthS (nthS (nthS (nthS (nthS (nthS (nthS (nthS (nthS (nthS (nthS (nthS (nthS (nthS (nthS (nthS (nthS (nth0)))))))))))))))))))))))) (by kernel_rfl) (l' := #[true, true, true, true, true, true, true, true, true, true, true, true, true, true, true, true, true, true, true, true, true, true, true, true]) rfl ?_
      refine wpList_store_mid rfl 63 (.tmp 37) (.tmp 35) rfl g (J * 9) #[.int .i64 a.cs, .int .i64 a.co, .int .i64 a.cf, .int .i64 a.ct, .int .i64 a.cl, .bool a.se, .bool a.ex, .int .i64 a.fi, .int .i64 a.un] rfl rfl (HR2.out.there (by rw [List.length_set, List.length_map]; exact (List.getElem?_eq_some_iff.1 HB.out).1)) (by kernel_rfl) (oneDa a) ?_
      generalize hW : World.setCells _ _ _ _ = W2
      have HP2 : Hid (Perms Du.row 63 9 w g l W2) := Lib.hid (by rw [← hW, ← HW1.out]; exact Perms.swap Du.row_len HGd.out HPm.out HRd.out HA.out HB.out)
      have hb2 : Below 0 W1 W2 := by rw [← hW]; exact below_setCells _ _ _ _
      clear hW
      go_wp2_with fail
      refine OneR_rough (by kernel_rfl) (hb2) ?_
      refine anyR_end (by kernel_rfl) ?_
      clear hw1 hw2
      go_wp2_with fail
      go_roundw
      case rel => exact ⟨k + 1, by omega, by go_num, HP2⟩
      case measure => simp [intOf]; omega
    · go_wp2_with fail
      go_end0
      exact ⟨rfl, HP.out⟩

set_option maxRecDepth 100000 in
set_option maxHeartbeats 8000000 in
theorem rotate_any (z : Du → Du → Int) (fn : FuncId) (cb : Array Value) (l : List Du) (g c a0 m0 b0 : Nat) (w : World) (eg : ∀ args w, (callFunc fn args).run Try.prog w = .ok (.enter fn args) w)
    (hr : RowsAt w g 63 9 (l.map Du.row)) (h1 : a0 < m0) (h2 : m0 < b0) (h3 : b0 ≤ l.length) (hl : l.length ≤ 1000) (hc : CmpD z fn cb g w) :
    Calls Try.prog 79 #[.slice (some ⟨g, 0, none⟩) l.length c, .int .i64 a0, .int .i64 m0, .int .i64 b0, .func (.func fn) #[] cb] w fun e w' => e = .returned (.tuple #[]) ∧ Perms Du.row 63 9 w g l w' := by
  obtain ⟨n, hn⟩ : ∃ n, n = l.length := ⟨_, rfl⟩
  rw [← hn] at h3 hl ⊢
  have HN := Lib.hid hn
  have HC := Lib.hid hc
  have HS := Lib.hid (Perms.start hr)
  clear hn hc hr
  go_enter Try.func79, Try.ntmps79
  go_wp2_with fail
  go_loopw [10, 11] (fun s10 s11 wr => ∃ (i j : Nat), 0 < i ∧ 0 < j ∧ i ≤ m0 ∧ m0 + j ≤ n ∧ s10 = .int .i64 i ∧ s11 = .int .i64 j ∧ Hid (Perms Du.row 63 9 w g l wr)) (fun s10 s11 _ => (intOf s10).toNat + (intOf s11).toNat)
  case atStart => exact ⟨m0 - a0, b0 - m0, by omega, by omega, by omega, by omega, by go_num, by go_num, HS⟩
  case round =>
    clear HS
    obtain ⟨i, j, hi0, hj0, him, hjn, rfl, rfl, HP⟩ := hrel
    by_cases hij : i = j
    · subst hij
      obtain ⟨hgr, l1, hp1, hr1⟩ := HP.out
      have hll : l1.length = n := by rw [HN.out]; exact hp1.length_eq
      have con := swapr_any z fn cb l1 g c (m0 - i) m0 i wr eg hr1 (by omega) (by omega) (by omega) (HC.out.later hgr)
      rw [hll] at con
      have Con := Lib.hid con
      have HT := Lib.hid (fun w' (h : Perms Du.row 63 9 wr g l1 w') => Perms.trans hgr hp1 h)
      clear con hgr hp1 hr1 hll HP
      rw [Int.ofNat_sub (by omega)] at Con
      go_wp2_with (go_at_call 82; (with_reducible refine Con.out.mono ?_); rintro e w2 ⟨rfl, hq⟩)
      have HQ := Lib.hid (HT.out _ hq)
      clear hq
      go_wp2_with fail
      go_end0
      exact ⟨rfl, HQ.out⟩
    · by_cases hlt : j < i
      · have q1 : ((i : Int) != (j : Int)) = true := by simp; omega
        obtain ⟨hgr, l1, hp1, hr1⟩ := HP.out
        have hll : l1.length = n := by rw [HN.out]; exact hp1.length_eq
        have con := swapr_any z fn cb l1 g c (m0 - i) m0 j wr eg hr1 (by omega) (by omega) (by omega) (HC.out.later hgr)
        rw [hll] at con
        have Con := Lib.hid con
        have HT := Lib.hid (fun w' (h : Perms Du.row 63 9 wr g l1 w') => Perms.trans hgr hp1 h)
        clear con hgr hp1 hr1 hll HP
        rw [Int.ofNat_sub (by omega)] at Con
        go_wp2_with (go_at_call 82; (with_reducible refine Con.out.mono ?_); rintro e w2 ⟨rfl, hq⟩)
        have HQ := Lib.hid (HT.out _ hq)
        clear hq
        go_wp2_with fail
        go_roundw
        case rel => exact ⟨i - j, j, by omega, by omega, by omega, by omega, by go_num, rfl, HQ⟩
        case measure => simp [intOf]; omega
      · have q1 : ((i : Int) != (j : Int)) = true := by simp; omega
        obtain ⟨hgr, l1, hp1, hr1⟩ := HP.out
        have hll : l1.length = n := by rw [HN.out]; exact hp1.length_eq
        have con := swapr_any z fn cb l1 g c (m0 - i) (m0 + j - i) i wr eg hr1 (by omega) (by omega) (by omega) (HC.out.later hgr)
        rw [hll] at con
        have Con := Lib.hid con
        have HT := Lib.hid (fun w' (h : Perms Du.row 63 9 wr g l1 w') => Perms.trans hgr hp1 h)
        clear con hgr hp1 hr1 hll HP
        rw [Int.ofNat_sub (by omega), Int.ofNat_sub (by omega), Int.natCast_add] at Con
        go_wp2_with (go_at_call 82; (with_reducible refine Con.out.mono ?_); rintro e w2 ⟨rfl, hq⟩)
        have HQ := Lib.hid (HT.out _ hq)
        clear hq
        go_wp2_with fail
        go_roundw
        case rel => exact ⟨i, j - i, by omega, by omega, by omega, by omega, rfl, by go_num, HQ⟩
        case measure => simp [intOf]; omega
end Go.Proofs.Ytepamedbbbfjkaa
