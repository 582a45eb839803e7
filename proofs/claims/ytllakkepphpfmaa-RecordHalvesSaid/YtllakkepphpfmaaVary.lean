/- Walk: varying of the reference. -/
import Derived.Test.YtllakkepphpfmaaEnc
namespace Go.Proofs.Ytllakkepphpfmaa
open Go.RowKit
open Rc

theorem conv1 {W : World} {g : Nat} {c : UInt8} (h : W.cell? ⟨g, 0, none⟩ = some (.int .u8 c.toNat)) : (convert 74 9 (.slice (some ⟨g, 0, none⟩) 1 1)).run Try.prog W = .ok (.string ⟨#[c]⟩) W :=
  run_convert_bytes_back W _ _ _ ⟨g, 0, none⟩ 1 [c] Try.underlying74 Try.underlying5 Try.underlying9 fun j hj => by
    obtain rfl : j = 0 := by simp at hj; omega
    simpa [Addr.add] using h

theorem ret_str {a b : List UInt8} (h : a = b) : Ending.returned (.string ⟨a.toArray⟩) = .returned (.string ⟨b.toArray⟩) := by rw [h]

set_option maxRecDepth 100000 in
set_option maxHeartbeats 2000000 in
theorem varying_nat (N : Nat) : ∀ (n : Nat) (w : World), n ≤ N → n < 9223372036854775808 → Calls Try.prog 43 #[.int .i64 (n : Nat)] w fun e w' => e = .returned (.string ⟨(varN n).toArray⟩) ∧ Below w.heap.size w w' := by
  induction N with
  | zero =>
    intro n w hn _
    obtain rfl : n = 0 := by omega
    have hcv := conv1 (c := 0) (W := w.alloc (.cells #[.int .u8 0] 5)) (g := w.heap.size) ((Row.new w [.int .u8 0] _) 0)
    go_enter Try.func43, Try.ntmps43
    go_wp2_with fail
    go_ret
    exact ⟨rfl, (Below.refl _ _).alloc (Nat.le_refl _) _⟩
  | succ N ih =>
    intro n w hn hlt
    by_cases h128 : n < 128
    · have hcv := conv1 (c := UInt8.ofNat n) (W := w.alloc (.cells #[.int .u8 (n : Int)] 5)) (g := w.heap.size) (by rw [← byte_same n h128]; exact (Row.new w [.int .u8 (n : Int)] _) 0)
      go_enter Try.func43, Try.ntmps43
      go_wp2_with fail
      go_ret
      exact ⟨ret_str (a := [UInt8.ofNat n]) (by rw [varN_one h128]), (Below.refl _ _).alloc (Nat.le_refl _) _⟩
    have IH : Hid (∀ W, Calls Try.prog 43 #[.int .i64 ((n : Int) / 128)] W fun e w' => e = .returned (.string ⟨(varN (n / 128)).toArray⟩) ∧ Below W.heap.size W w') := Lib.hid (fun W => by
      have := ih (n / 128) W (by omega) (by omega)
      rwa [show (((n / 128 : Nat) : Int)) = (n : Int) / 128 by omega] at this)
    clear ih
    obtain ⟨cc, hcc⟩ : ∃ cc, cc = UInt8.ofNat (n % 128 + 128) := ⟨_, rfl⟩
    have hby : Hid (((n : Int) % 128 + 128) = (cc.toNat : Int)) := Lib.hid (by rw [hcc, UInt8.toNat_ofNat']; omega)
    have hst : Hid (varN n = cc :: varN (n / 128)) := Lib.hid (by rw [hcc]; exact varN_step (n := n) (by omega) hlt)
    clear hcc
    have hle : (9223372036854775807 < 1 + (varN (n / 128)).length) = False := by have := varN_length (n / 128); simp; omega
    have w1 : IntKind.i64.wrap ((n : Int) % 128 + 128) = (n : Int) % 128 + 128 := by rw [IntWalk.i64_in _ (by omega)]
    have w2 : IntKind.u8.wrap ((n : Int) % 128 + 128) = (n : Int) % 128 + 128 := by simp [IntKind.wrap, IntKind.bits, IntKind.signed]; omega
    go_enter Try.func43, Try.ntmps43
    go_wp2_with fail
    refine wp_region_mix (w.heap.size) 11 #[false, false, false, false, false, false, false, false, false, false, false] (by kernel_rfl) rfl rfl ?_
    refine anyB_take 0 _ (nth0) rfl (by kernel_rfl) (by kernel_rfl) (by kernel_rfl) (l' := #[true, false, false, false, false, false, false, false, false, false, false]) rfl rfl ?_; intro K hK; go_big_quiet_op; go_big_quiet_on
    refine anyB_take 1 _ (nthS (nth0)) rfl (by kernel_rfl) (by kernel_rfl) (by kernel_rfl) (l' := #[true, true, false, false, false, false, false, false, false, false, false]) rfl rfl ?_; intro K hK; go_big_quiet_op; go_big_quiet_on
    refine anyB_take 2 _ (nthS (nthS (nth0))) rfl (by kernel_rfl) (by kernel_rfl) (by kernel_rfl) (l' := #[true, true, true, false, false, false, false, false, false, false, false]) rfl rfl ?_; intro K hK; go_big_quiet_op; go_big_quiet_on
    refine anyB_take 3 _ (nthS (nthS (nthS (nth0)))) rfl (by kernel_rfl) (by kernel_rfl) (by kernel_rfl) (l' := #[true, true, true, true, false, false, false, false, false, false, false]) rfl rfl ?_; intro K hK; go_big_quiet_op; go_big_quiet_on
    refine anyB_take 6 _ (nthS (nthS (nthS (nthS (nthS (nthS (nth0))))))) rfl (by kernel_rfl) (by kernel_rfl) (by kernel_rfl) (l' := #[true, true, true, true, false, false, true, false, false, false, false]) rfl rfl ?_; intro K hK; go_big_quiet_op; go_big_quiet_on
    refine anyB_take 7 _ (nthS (nthS (nthS (nthS (nthS (nthS (nthS (nth0)))))))) rfl (by kernel_rfl) (by kernel_rfl) (by kernel_rfl) (l' := #[true, true, true, true, false, false, true, true, false, false, false]) rfl rfl ?_; intro K hK; go_big_quiet_op; go_big_quiet_on
    refine anyB_two 4 8 _ _ (nthS (nthS (nthS (nthS (nth0))))) (nthS (nthS (nthS (nthS (nthS (nthS (nthS (nthS (nth0))))))))) (by kernel_rfl) (l1 := #[true, true, true, true, true, false, true, true, false, false, false]) (l2 := #[true, true, true, true, false, false, true, true, true, false, false]) rfl rfl ?_ ?_
    · go_wp2_with fail
      refine OneB_mk ((Below.refl _ _).alloc (by first | exact Nat.le_refl _ | exact hb8.size | (simp; done)) _) ?_
      refine anyB_two 5 8 _ _ (nthS (nthS (nthS (nthS (nthS (nth0)))))) (nthS (nthS (nthS (nthS (nthS (nthS (nthS (nthS (nth0))))))))) (by kernel_rfl) (l1 := #[true, true, true, true, true, true, true, true, false, false, false]) (l2 := #[true, true, true, true, true, false, true, true, true, false, false]) rfl rfl ?_ ?_
      · have hcv := conv1 (c := cc) (W := (w.alloc (.cells #[.int .u8 ((n : Int) % 128 + 128)] 5)).drew) (g := w.heap.size) (by rw [← hby.out]; exact (Row.new w [.int .u8 ((n : Int) % 128 + 128)] _) 0)
        go_wp2_with fail
        refine OneB_mk (Below.refl _ _) ?_
        refine anyB_one 8 _ (nthS (nthS (nthS (nthS (nthS (nthS (nthS (nthS (nth0))))))))) (by kernel_rfl) (l' := #[true, true, true, true, true, true, true, true, true, false, false]) rfl ?_
        go_wp2_with fail
        refine (IH.out _).mono ?_
        rintro e w8 ⟨rfl, hb8⟩
        go_wp2_with fail
        refine OneB_mk (hb8.mono (by first | exact Nat.le_refl _ | (simp; done))) ?_
        refine anyB_take 9 _ (nthS (nthS (nthS (nthS (nthS (nthS (nthS (nthS (nthS (nth0)))))))))) rfl (by kernel_rfl) (by kernel_rfl) (by kernel_rfl) (l' := #[true, true, true, true, true, true, true, true, true, true, false]) rfl rfl ?_; intro K hK; go_big_quiet_op; go_big_quiet_on
        refine anyB_take 10 _ (nthS (nthS (nthS (nthS (nthS (nthS (nthS (nthS (nthS (nthS (nth0))))))))))) rfl (by kernel_rfl) (by kernel_rfl) (by kernel_rfl) (l' := #[true, true, true, true, true, true, true, true, true, true, true]) rfl rfl ?_; intro K hK; go_big_quiet_op; go_big_quiet_on
        refine anyB_end (by kernel_rfl) ?_
        go_wp2_with fail
        go_ret
        exact ⟨ret_str (a := [cc] ++ varN (n / 128)) (by rw [hst.out]; rfl), by first | exact ((Below.refl _ _).alloc (Nat.le_refl _) _).drew.trans (hb8.mono (by simp)) | exact (Below.refl _ _).drew.trans ((hb8.mono (by simp)).alloc (by have := hb8.size; simp at this; omega) _)⟩
      · go_wp2_with fail
        refine (IH.out _).mono ?_
        rintro e w8 ⟨rfl, hb8⟩
        go_wp2_with fail
        refine OneB_mk (hb8.mono (by first | exact Nat.le_refl _ | (simp; done))) ?_
        refine anyB_one 5 _ (nthS (nthS (nthS (nthS (nthS (nth0)))))) (by kernel_rfl) (l' := #[true, true, true, true, true, true, true, true, true, false, false]) rfl ?_
        have hcv := conv1 (c := cc) (W := w8) (g := w.heap.size) (by rw [← hby.out]; exact (((Row.new w [.int .u8 ((n : Int) % 128 + 128)] _).drew).below hb8 (by simp)) 0)
        go_wp2_with fail
        refine OneB_mk (Below.refl _ _) ?_
        refine anyB_take 9 _ (nthS (nthS (nthS (nthS (nthS (nthS (nthS (nthS (nthS (nth0)))))))))) rfl (by kernel_rfl) (by kernel_rfl) (by kernel_rfl) (l' := #[true, true, true, true, true, true, true, true, true, true, false]) rfl rfl ?_; intro K hK; go_big_quiet_op; go_big_quiet_on
        refine anyB_take 10 _ (nthS (nthS (nthS (nthS (nthS (nthS (nthS (nthS (nthS (nthS (nth0))))))))))) rfl (by kernel_rfl) (by kernel_rfl) (by kernel_rfl) (l' := #[true, true, true, true, true, true, true, true, true, true, true]) rfl rfl ?_; intro K hK; go_big_quiet_op; go_big_quiet_on
        refine anyB_end (by kernel_rfl) ?_
        go_wp2_with fail
        go_ret
        exact ⟨ret_str (a := [cc] ++ varN (n / 128)) (by rw [hst.out]; rfl), by first | exact ((Below.refl _ _).alloc (Nat.le_refl _) _).drew.trans (hb8.mono (by simp)) | exact (Below.refl _ _).drew.trans ((hb8.mono (by simp)).alloc (by have := hb8.size; simp at this; omega) _)⟩
    · go_wp2_with fail
      refine (IH.out _).mono ?_
      rintro e w8 ⟨rfl, hb8⟩
      go_wp2_with fail
      refine OneB_mk (hb8.mono (by first | exact Nat.le_refl _ | (simp; done))) ?_
      refine anyB_one 4 _ (nthS (nthS (nthS (nthS (nth0))))) (by kernel_rfl) (l' := #[true, true, true, true, true, false, true, true, true, false, false]) rfl ?_
      go_wp2_with fail
      refine OneB_mk ((Below.refl _ _).alloc (by first | exact Nat.le_refl _ | exact hb8.size | (simp; done)) _) ?_
      refine anyB_one 5 _ (nthS (nthS (nthS (nthS (nthS (nth0)))))) (by kernel_rfl) (l' := #[true, true, true, true, true, true, true, true, true, false, false]) rfl ?_
      have hcv := conv1 (c := cc) (W := w8.alloc (.cells #[.int .u8 ((n : Int) % 128 + 128)] 5)) (g := w8.heap.size) (by rw [← hby.out]; exact (Row.new w8 [.int .u8 ((n : Int) % 128 + 128)] _) 0)
      go_wp2_with fail
      refine OneB_mk (Below.refl _ _) ?_
      refine anyB_take 9 _ (nthS (nthS (nthS (nthS (nthS (nthS (nthS (nthS (nthS (nth0)))))))))) rfl (by kernel_rfl) (by kernel_rfl) (by kernel_rfl) (l' := #[true, true, true, true, true, true, true, true, true, true, false]) rfl rfl ?_; intro K hK; go_big_quiet_op; go_big_quiet_on
      refine anyB_take 10 _ (nthS (nthS (nthS (nthS (nthS (nthS (nthS (nthS (nthS (nthS (nth0))))))))))) rfl (by kernel_rfl) (by kernel_rfl) (by kernel_rfl) (l' := #[true, true, true, true, true, true, true, true, true, true, true]) rfl rfl ?_; intro K hK; go_big_quiet_op; go_big_quiet_on
      refine anyB_end (by kernel_rfl) ?_
      go_wp2_with fail
      go_ret
      exact ⟨ret_str (a := [cc] ++ varN (n / 128)) (by rw [hst.out]; rfl), by first | exact ((Below.refl _ _).alloc (Nat.le_refl _) _).drew.trans (hb8.mono (by simp)) | exact (Below.refl _ _).drew.trans ((hb8.mono (by simp)).alloc (by have := hb8.size; simp at this; omega) _)⟩

end Go.Proofs.Ytllakkepphpfmaa
