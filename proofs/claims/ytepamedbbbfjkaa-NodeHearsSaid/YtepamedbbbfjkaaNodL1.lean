/- Walk: NodeHears. -/
import Derived.Test.YtepamedbbbfjkaaNodAw
namespace Go.Proofs.Ytepamedbbbfjkaa
open Go.RowKit
open Nd

theorem hear_len (fs : List Fl) (self slot : Int) (l : List Hd) (cl frame : Int) (h : l.length ≤ 100) : (Nd.hear fs self slot l cl frame).1.length ≤ 1000 := by
  have hi := ins_len l ⟨cl, frame, []⟩
  unfold Nd.hear
  split
  · split
    · show l.length ≤ 1000; omega
    · split
      · show l.length ≤ 1000; omega
      · split
        · show (ins l ⟨cl, frame, []⟩).length ≤ 1000; omega
        · show l.length ≤ 1000; omega
  · simp

set_option maxRecDepth 100000 in
set_option maxHeartbeats 2000000 in
theorem nodeHears_walk (fs : List Fl) (l : List Ho) (A D : Option Addr) (c cd : Nat) (self slot cs co cf ct cl frame : Int) (w : World) (hA : Lies w w.heap.size 6 A (fs.map Fl.row)) (hD : Lies w w.heap.size 3 D (l.map Ho.row)) (hI : ∀ h ∈ l, LiesI w w.heap.size h.A h.ak ∧ h.ak.length ≤ maxLen)
    (hf : fs.length ≤ maxLen) (hl : l.length ≤ maxLen) (hnA : A = none → fs = []) (hnD : D = none → l = []) :
    Calls Try.prog 3 #[.slice A fs.length c, .int .i64 self, .int .i64 slot, .slice D l.length cd, .agg #[.int .i64 cs, .int .i64 co, .int .i64 cf, .int .i64 ct, .int .i64 cl], .int .i64 frame] w fun e w' => e = .returned (.bool true) ∧ Below w.heap.size w w' := by
  obtain ⟨N, hN⟩ : ∃ N, N = w.heap.size := ⟨_, rfl⟩
  obtain ⟨W1, hW1⟩ : ∃ W1, W1 = w.alloc (.cells #[.int .i64 cs, .int .i64 co, .int .i64 cf, .int .i64 ct, .int .i64 cl] 25) := ⟨_, rfl⟩
  have hb1 : Below N w W1 := by rw [hW1, hN]; exact (Below.refl _ _).alloc (Nat.le_refl _) _
  have bC : Blk W1 N 25 [.int .i64 cs, .int .i64 co, .int .i64 cf, .int .i64 ct, .int .i64 cl] := by rw [hW1]; exact Blk.new2 _ [.int .i64 cs, .int .i64 co, .int .i64 cf, .int .i64 ct, .int .i64 cl] hN
  obtain ⟨M, hM⟩ : ∃ M, M = W1.heap.size := ⟨_, rfl⟩
  have hNM : N ≤ M := by rw [hM, hN]; exact (hN ▸ hb1).size
  have hNM' : N < M := by rw [hM]; exact bC.lt
  have HW := Lib.hid (fun W (h' : Below M W1 W) => (show Below w.heap.size w W ∧ M ≤ W.heap.size ∧ Blk W N 25 [.int .i64 cs, .int .i64 co, .int .i64 cf, .int .i64 ct, .int .i64 cl] from ⟨by rw [← hN]; exact hb1.trans (h'.mono hNM), by rw [hM]; exact h'.size, bC.below h' hNM'⟩))
  have HA := Lib.hid (fun W (h' : Below M W1 W) => Lies.later hA (HW.out W h').1)
  have HD0 := Lib.hid (fun W (h' : Below M W1 W) => Lies.later hD (HW.out W h').1)
  have HD := Lib.hid (fun (hs : ∀ h ∈ l, h.ak.length ≤ 1000000) W (h' : Below M W1 W) => (show LiesH W W.heap.size D l from ⟨HD0.out W h', fun h hh => ⟨(hI h hh).1.below (HW.out W h').1 |>.more (HW.out W h').1.size, hs h hh⟩⟩))
  have HFw := Lib.hid (fun W (h' : Below M W1 W) (dA : Option Addr) (nd dc : Nat) (hd : nd ≤ maxLen) => few_any fs.length nd l D A dA cd c dc W (HD0.out W h') (fun h hh => (hI h hh).2) hl hf hd)
  have HnA := Lib.hid hnA
  have HnD := Lib.hid hnD
  have HN := Lib.hid hN
  have HM := Lib.hid hM
  have HW1 := Lib.hid hW1
  clear hA hD hI hb1 hN hM hW1 hnA hnD bC
  go_enter Try.func3, Try.ntmps3
  go_wp2_with fail
  rw [← HW1.out, ← HN.out]
  refine (awake_any W1).mono ?_
  rintro e w2 ⟨rfl, hb2⟩
  rw [← HM.out] at hb2
  go_wp2_with fail
  refine (HFw.out _ hb2 none 0 0 (by unfold maxLen; omega)).mono ?_
  rintro e w3 ⟨rfl, rfl⟩
  by_cases hfew : fs.length ≤ 20 ∧ l.length ≤ 20 ∧ 0 ≤ 40 ∧ ∀ h ∈ l, h.ak.length ≤ 40
  case neg =>
    have hb : (decide (fs.length ≤ 20) && decide (l.length ≤ 20) && decide (0 ≤ 40) && l.all (fun h => decide (h.ak.length ≤ 40))) = false := by
      rw [Bool.eq_false_iff]
      intro h
      simp only [Bool.and_eq_true, decide_eq_true_eq, List.all_eq_true] at h
      exact hfew ⟨h.1.1.1, h.1.1.2, h.1.2, h.2⟩
    rw [hb]
    clear hb hfew
    go_wp2_with fail
    refine (awake_any _).mono ?_
    rintro e w4 ⟨rfl, hb4⟩
    have hb4' : Below M W1 w4 := hb2.trans (hb4.mono (HW.out _ hb2).2.1)
    go_wp2_with fail
    go_ret
    exact ⟨rfl, (HW.out _ hb4').1⟩
  have hb : (decide (fs.length ≤ 20) && decide (l.length ≤ 20) && decide (0 ≤ 40) && l.all (fun h => decide (h.ak.length ≤ 40))) = true := by
    simp only [Bool.and_eq_true, decide_eq_true_eq, List.all_eq_true]
    exact ⟨⟨⟨hfew.1, hfew.2.1⟩, hfew.2.2.1⟩, hfew.2.2.2⟩
  rw [hb]
  clear hb
  obtain ⟨hf20, hl20, hd40, hak⟩ := hfew
  have HDs := Lib.hid (HD.out (fun h hh => by have := hak h hh; omega))
  clear hak HD HFw hf hl
  obtain ⟨n, hn⟩ : ∃ n, n = l.length := ⟨_, rfl⟩
  obtain ⟨m, hm⟩ : ∃ m, m = fs.length := ⟨_, rfl⟩
  obtain ⟨R, hR⟩ : ∃ R, R = Nd.hear fs self slot (l.map Ho.d) cl frame := ⟨_, rfl⟩
  have HCF := Lib.hid (fun W h' => cloneF_any fs A c W (HA.out W h') (by omega) HnA.out)
  have HCP := Lib.hid (fun W h' => cp_any l D cd W (HDs.out W h') (by omega) HnD.out)
  have HRH := Lib.hid (fun W h' => rhear_any fs l A D c cd self slot cs co cf ct cl frame W (HA.out W h') (by omega) (HDs.out W h') (by omega))
  have HH := Lib.hid (fun (l' : List Ho) A' D' c' cd' W h1 h2 (he : l'.map Ho.d = l.map Ho.d) => (by
    have hlen : l'.length = l.length := by have := congrArg List.length he; simpa using this
    have := hear_any fs l' A' D' c' cd' self slot cs co cf ct cl frame W h1 (by omega) h2 (by omega)
    rw [he, hlen, ← hR] at this
    exact this : Calls Try.prog 9 #[.slice A' fs.length c', .int .i64 self, .int .i64 slot, .slice D' l.length cd', .agg #[.int .i64 cs, .int .i64 co, .int .i64 cf, .int .i64 ct, .int .i64 cl], .int .i64 frame] W fun e w' => Below W.heap.size W w' ∧ ∃ v l', e = .returned (.tuple #[v, .bool R.2.1, .int .i64 R.2.2]) ∧ OutH w' W.heap.size v l' ∧ l'.map Ho.d = R.1))
  have HRL : Hid (R.1.length ≤ 1000) := Lib.hid (by rw [hR]; exact hear_len fs self slot (l.map Ho.d) cl frame (by rw [List.length_map]; omega))
  rw [← hR] at HRH
  rw [← hn] at HCP HRH HH ⊢
  rw [← hm] at HCF HRH HH ⊢
  have HNn := Lib.hid hn
  have HMm := Lib.hid hm
  clear hn hm hR hf20 hl20 hd40
  have r2 := (HW.out _ hb2).2.2
  have cr2 := r2.row
  go_wp2_with fail
  have xx : ∀ (x : ExtW w2.heap.size w2.drew) (i : Nat), x.val.cell? ⟨N, i, none⟩ = _ := (Row.drew cr2).ext r2.lt
  go_cut [13, 14, 15] (fun s13 s14 s15 W => ∃ (l8 : List Ho) (A8 : Option Addr) (c8 : Nat), s13 = .slice A8 l8.length c8 ∧ s14 = .bool R.2.1 ∧ s15 = .int .i64 R.2.2 ∧ Below M W1 W ∧ Hid (l8.map Ho.d = R.1) ∧ Hid (∀ X, Below W.heap.size W X → LiesH X X.heap.size A8 l8))
  case first =>
    refine wp_region_rough (w2.heap.size) 16 [] #[false, false, false, false, false, false, false, false, false, false, false, false, false, false, false, false] (by kernel_rfl) rfl rfl ?_
    generalize hwd : w2.drew = wd at xx ⊢
    have hBd : Below M W1 wd := by rw [← hwd]; exact hb2.drew
    have HDZ : Hid (w2.heap.size = wd.heap.size) := Lib.hid (by rw [← hwd]; rfl)
    clear hwd
    refine anyR_take0 0 _ (nth0) rfl (by kernel_rfl) (by kernel_rfl) (by kernel_rfl) (l' := #[true, false, false, false, false, false, false, false, false, false, false, false, false, false, false, false]) rfl rfl ?_; intro K hK; go_big_quiet_op; go_big_quiet_on
    refine anyR_take0 2 _ (nthS (nthS (nth0))) rfl (by kernel_rfl) (by kernel_rfl) (by kernel_rfl) (l' := #[true, false, true, false, false, false, false, false, false, false, false, false, false, false, false, false]) rfl rfl ?_; intro K hK; go_big_quiet_op; go_big_quiet_on
    refine anyR_take0 3 _ (nthS (nthS (nthS (nth0)))) rfl (by kernel_rfl) (by kernel_rfl) (by kernel_rfl) (l' := #[true, false, true, true, false, false, false, false, false, false, false, false, false, false, false, false]) rfl rfl ?_; intro K hK; go_big_quiet_op; go_big_quiet_on
    refine anyR_take0 4 _ (nthS (nthS (nthS (nthS (nth0))))) rfl (by kernel_rfl) (by kernel_rfl) (by kernel_rfl) (l' := #[true, false, true, true, true, false, false, false, false, false, false, false, false, false, false, false]) rfl rfl ?_; intro K hK; go_big_quiet_op; go_big_quiet_on
    refine anyR_take 6 _ (nthS (nthS (nthS (nthS (nthS (nthS (nth0))))))) rfl (by kernel_rfl) (by kernel_rfl) (by kernel_rfl) (by kernel_rfl) (l' := #[true, false, true, true, true, false, true, false, false, false, false, false, false, false, false, false]) rfl rfl ?_; intro K hK; go_big_quiet_op; go_big_quiet_on
    refine anyR_take0 7 _ (nthS (nthS (nthS (nthS (nthS (nthS (nthS (nth0)))))))) rfl (by kernel_rfl) (by kernel_rfl) (by kernel_rfl) (l' := #[true, false, true, true, true, false, true, true, false, false, false, false, false, false, false, false]) rfl rfl ?_; intro K hK; go_big_quiet_op; go_big_quiet_on
    refine anyR_one 1 _ (nthS (nth0)) (by kernel_rfl) (l' := #[true, true, true, true, true, false, true, true, false, false, false, false, false, false, false, false]) rfl ?_
    clear xx
    go_wp2_with fail
    refine (HCF.out _ hBd).mono ?_
    rintro e V1 ⟨hv1, v1, rfl, ho1⟩
    rw [HMm.out] at ho1
    obtain ⟨A1, c1, hv1e, hL1, _⟩ := own_lies (f := Fl.row) Fl.row_len ho1
    rw [← HMm.out] at hv1e
    subst hv1e
    have hB1 : Below M W1 V1 := hBd.trans (hv1.mono (HW.out _ hBd).2.1)
    clear ho1
    go_wp2_with fail
    refine OneR_mk (hv1.mono (Nat.le_of_eq HDZ.out)) ?_
    refine anyR_one 5 _ (nthS (nthS (nthS (nthS (nthS (nth0)))))) (by kernel_rfl) (l' := #[true, true, true, true, true, true, true, true, false, false, false, false, false, false, false, false]) rfl ?_
    go_wp2_with fail
    refine (HCP.out _ hB1).mono ?_
    rintro e V5 ⟨hv5, v5, l5, rfl, ho5, hm5⟩
    obtain ⟨A5, c5, hv5e, hL5⟩ := ho5.lies
    have hn5 : l5.length = n := by have := congrArg List.length hm5; rw [HNn.out]; simpa using this
    rw [hn5] at hv5e
    subst hv5e
    have hB5 : Below M W1 V5 := hB1.trans (hv5.mono (HW.out _ hB1).2.1)
    have HM5 := Lib.hid hm5
    clear ho5 hn5 hm5
    go_wp2_with fail
    refine OneR_mk (hv5.mono ((Nat.le_trans (Nat.le_of_eq HDZ.out) hv1.size))) ?_
    refine anyR_one 8 _ (nthS (nthS (nthS (nthS (nthS (nthS (nthS (nthS (nth0))))))))) (by kernel_rfl) (l' := #[true, true, true, true, true, true, true, true, true, false, false, false, false, false, false, false]) rfl ?_
    go_wp2_with fail
    refine (HH.out l5 A1 A5 c1 c5 _ (hL1.later hv5) hL5 HM5.out).mono ?_
    rintro e V8 ⟨hv8, v8, l8, rfl, ho8, hm8⟩
    obtain ⟨A8, c8, hv8e, hL8⟩ := ho8.lies
    have hB8 : Below M W1 V8 := hB5.trans (hv8.mono (HW.out _ hB5).2.1)
    have HM8 := Lib.hid hm8
    have HL8 := Lib.hid (fun W (h' : Below V8.heap.size V8 W) => hL8.later h')
    clear ho8 hm8 hL8
    subst hv8e
    go_wp2_with fail
    refine OneR_mk (hv8.mono (Nat.le_trans (Nat.le_of_eq HDZ.out) (hv1.trans (hv5.mono hv1.size)).size)) ?_
    refine anyR_take0 9 _ (nthS (nthS (nthS (nthS (nthS (nthS (nthS (nthS (nthS (nth0)))))))))) rfl (by kernel_rfl) (by kernel_rfl) (by kernel_rfl) (l' := #[true, true, true, true, true, true, true, true, true, true, false, false, false, false, false, false]) rfl rfl ?_; intro K hK; go_big_quiet_op; go_big_quiet_on
    refine anyR_take0 10 _ (nthS (nthS (nthS (nthS (nthS (nthS (nthS (nthS (nthS (nthS (nth0))))))))))) rfl (by kernel_rfl) (by kernel_rfl) (by kernel_rfl) (l' := #[true, true, true, true, true, true, true, true, true, true, true, false, false, false, false, false]) rfl rfl ?_; intro K hK; go_big_quiet_op; go_big_quiet_on
    refine anyR_take0 11 _ (nthS (nthS (nthS (nthS (nthS (nthS (nthS (nthS (nthS (nthS (nthS (nth0)))))))))))) rfl (by kernel_rfl) (by kernel_rfl) (by kernel_rfl) (l' := #[true, true, true, true, true, true, true, true, true, true, true, true, false, false, false, false]) rfl rfl ?_; intro K hK; go_big_quiet_op; go_big_quiet_on
    refine anyR_take0 12 _ (nthS (nthS (nthS (nthS (nthS (nthS (nthS (nthS (nthS (nthS (nthS (nthS (nth0))))))))))))) rfl (by kernel_rfl) (by kernel_rfl) (by kernel_rfl) (l' := #[true, true, true, true, true, true, true, true, true, true, true, true, true, false, false, false]) rfl rfl ?_; intro K hK; go_big_quiet_op; go_big_quiet_on
    refine anyR_take0 13 _ (nthS (nthS (nthS (nthS (nthS (nthS (nthS (nthS (nthS (nthS (nthS (nthS (nthS (nth0)))))))))))))) rfl (by kernel_rfl) (by kernel_rfl) (by kernel_rfl) (l' := #[true, true, true, true, true, true, true, true, true, true, true, true, true, true, false, false]) rfl rfl ?_; intro K hK; go_big_quiet_op; go_big_quiet_on
    refine anyR_take0 14 _ (nthS (nthS (nthS (nthS (nthS (nthS (nthS (nthS (nthS (nthS (nthS (nthS (nthS (nthS (nth0))))))))))))))) rfl (by kernel_rfl) (by kernel_rfl) (by kernel_rfl) (l' := #[true, true, true, true, true, true, true, true, true, true, true, true, true, true, true, false]) rfl rfl ?_; intro K hK; go_big_quiet_op; go_big_quiet_on
    refine anyR_take0 15 _ (nthS (nthS (nthS (nthS (nthS (nthS (nthS (nthS (nthS (nthS (nthS (nthS (nthS (nthS (nthS (nth0)))))))))))))))) rfl (by kernel_rfl) (by kernel_rfl) (by kernel_rfl) (l' := #[true, true, true, true, true, true, true, true, true, true, true, true, true, true, true, true]) rfl rfl ?_; intro K hK; go_big_quiet_op; go_big_quiet_on
    refine anyR_end (by kernel_rfl) ?_
    go_wp2_with fail
    go_meet
    exact ⟨l8, A8, c8, rfl, rfl, rfl, hB8, HM8, HL8⟩
  case rest =>
    obtain ⟨l8, A8, c8, rfl, rfl, rfl, hB8, HM8, HL8⟩ := hcut
    have r8 := (HW.out _ hB8).2.2.row
    unfold Row at r8
    clear xx cr2 r2
    go_wp2_with fail
    refine (HRH.out _ hB8).mono ?_
    rintro e w9 ⟨hb9, v9, l9, rfl, ho9, hm9⟩
    obtain ⟨A9, c9, hv9, hL9⟩ := ho9.lies
    subst hv9
    have hB9 : Below M W1 w9 := hB8.trans (hb9.mono (HW.out _ hB8).2.1)
    have HSm := Lib.hid (same_eq l8 l9 A8 A9 c8 c9 w9 (HL8.out _ hb9) hL9 (by have h1 := congrArg List.length HM8.out; rw [List.length_map] at h1; have := HRL.out; omega) (by rw [HM8.out, hm9]))
    clear ho9 hm9 hL9 r8
    go_wp2_with fail
    refine HSm.out.mono ?_
    rintro e wx ⟨rfl, hbx⟩
    have hBx : Below M W1 wx := hB9.trans (hbx.mono (HW.out _ hB9).2.1)
    obtain ⟨R1, R2, R3⟩ := R
    go_wp2_with fail
    go_ret
    exact ⟨by simp, (HW.out _ hBx).1⟩
end Go.Proofs.Ytepamedbbbfjkaa
