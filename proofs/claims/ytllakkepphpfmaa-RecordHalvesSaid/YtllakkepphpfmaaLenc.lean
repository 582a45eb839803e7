/- RecordEncodes: Check and Encode return what the reference returns, for any record with up to 150 attempts and 100 deliveries; else awake alone is asked. -/
import Derived.Test.YtllakkepphpfmaaCp
import Derived.Test.YtllakkepphpfmaaShape
namespace Go.Proofs.Ytllakkepphpfmaa
open Go.RowKit
open Rc

def encS (r : Rec) : List UInt8 := if good r then encR r else []
theorem encode_any (r : Rec) (A D : Option Addr) (ca cd : Nat) (w : World) (hA : LiesA w w.heap.size A r.al) (hD : LiesD w w.heap.size D r.dl) (hla : r.al.length ≤ 9223372036854775807) (hld : r.dl.length ≤ 9223372036854775807) :
    Calls Try.prog 14 #[.agg #[.int .i64 r.slots, .slice A r.al.length ca, .slice D r.dl.length cd]] w fun e w' => e = .returned (.tuple #[.string ⟨(encS r).toArray⟩, .int .i64 (checkE r)]) ∧ Below w.heap.size w w' := by
  cases hg : good r with
  | true => simpa [encS, checkE, hg] using encode_good r A D ca cd w hA hD hg
  | false => simpa [encS, checkE, hg] using encode_bad r A D ca cd w hA hD hla hld hg
theorem rencode_any (r : Rec) (A D : Option Addr) (ca cd : Nat) (w : World) (hA : LiesA w w.heap.size A r.al) (hD : LiesD w w.heap.size D r.dl) (hla : r.al.length ≤ 9223372036854775807) (hld : r.dl.length ≤ 9223372036854775807) :
    Calls Try.prog 17 #[.agg #[.int .i64 r.slots, .slice A r.al.length ca, .slice D r.dl.length cd]] w fun e w' => e = .returned (.tuple #[.string ⟨(encS r).toArray⟩, .int .i64 (checkE r)]) ∧ Below w.heap.size w w' := by
  cases hg : good r with
  | true => simpa [encS, checkE, hg] using rencode_good r A D ca cd w hA hD hg
  | false => simpa [encS, checkE, hg] using rencode_bad r A D ca cd w hA hD hla hld hg

/-- A record that came in. -/
structure RecIn (w : World) (r : Rec) (A D : Option Addr) : Prop where
  hA : LiesA w w.heap.size A r.al
  hD : LiesD w w.heap.size D r.dl
  la : r.al.length ≤ 9223372036854775807
  ld : r.dl.length ≤ 9223372036854775807
  nA : A = none → r.al = []
  nD : D = none → r.dl = []

set_option maxRecDepth 100000 in
set_option maxHeartbeats 1000000 in
theorem encodes_walk (r : Rec) (A D : Option Addr) (ca cd : Nat) (w : World) (hr : RecIn w r A D) :
    Calls Try.prog 4 #[.agg #[.int .i64 r.slots, .slice A r.al.length ca, .slice D r.dl.length cd]] w fun e w' => e = .returned (.bool true) ∧ Below w.heap.size w w' := by
  obtain ⟨hA, hD, hm1, hm2, hnA, hnD⟩ := hr
  have few := fun W => few_any r A D ca cd W hm1 hm2
  have HF := Lib.hid few
  have HnA := Lib.hid hnA
  have HnD := Lib.hid hnD
  clear few hnA hnD
  go_enter Try.func4, Try.ntmps4
  go_wp2_with fail
  generalize hW1 : World.alloc _ _ = W1
  have bR : Blk W1 w.heap.size 28 [.int .i64 r.slots, .slice A r.al.length ca, .slice D r.dl.length cd] := by rw [← hW1]; exact Blk.new' _ [.int .i64 r.slots, .slice A r.al.length ca, .slice D r.dl.length cd] rfl
  have hb1 : Below w.heap.size w W1 := by rw [← hW1]; exact (Below.refl _ _).alloc (Nat.le_refl _) _
  clear hW1
  obtain ⟨N, hN⟩ : ∃ N, N = w.heap.size := ⟨_, rfl⟩
  rw [← hN] at bR hb1 hA hD ⊢
  obtain ⟨M, hM⟩ : ∃ M, M = W1.heap.size := ⟨_, rfl⟩
  have hNM : N < M := by rw [hM]; exact bR.lt
  have LA : Hid (∀ W, Below M W1 W → LiesA W W.heap.size A r.al ∧ LiesD W W.heap.size D r.dl) := Lib.hid fun W h => ⟨((hA.below hb1).below_le h (by omega)).more (by have := h.size; omega), ((hD.below hb1).below_le h (by omega)).more (by have := h.size; omega)⟩
  have HRow : Hid (∀ W, Below M W1 W → Row W N [.int .i64 r.slots, .slice A r.al.length ca, .slice D r.dl.length cd]) := Lib.hid fun W h => (bR.below h hNM).row
  have HW : Hid (∀ W, Below M W1 W → Below N w W ∧ M ≤ W.heap.size) := Lib.hid fun W h => ⟨hb1.trans (h.mono (by omega)), by have := h.size; omega⟩
  have HN := Lib.hid hN
  have HM := Lib.hid hM
  clear hN hA hD bR hb1
  refine (awake_any W1).mono ?_
  rintro e w2 ⟨rfl, hb2⟩
  rw [← hM] at hb2
  clear hM
  have r2 := HRow.out _ hb2
  unfold Row at r2
  go_wp2_with fail
  refine (HF.out w2).mono ?_
  rintro e w3 ⟨rfl, hb3⟩
  have hb3' : Below M W1 w3 := hb2.trans (hb3.mono (HW.out _ hb2).2)
  clear r2 hb2 hb3
  by_cases hfew : r.al.length ≤ 150 ∧ r.dl.length ≤ 100
  case neg =>
    have hf : (decide (r.al.length ≤ 150) && decide (r.dl.length ≤ 100)) = false := by
      rw [Bool.eq_false_iff]; intro h; exact hfew (by simpa using h)
    rw [hf]
    clear hf hfew
    go_wp2_with fail
    refine (awake_any w3).mono ?_
    rintro e w4 ⟨rfl, hb4⟩
    have hb4' : Below M W1 w4 := hb3'.trans (hb4.mono (HW.out _ hb3').2)
    go_wp2_with fail
    go_ret
    exact ⟨rfl, by rw [← HN.out]; exact (HW.out _ hb4').1⟩
  have hf : (decide (r.al.length ≤ 150) && decide (r.dl.length ≤ 100)) = true := by simpa using hfew
  rw [hf]
  have hl1 : r.al.length ≤ 1000000 := by omega
  have hl2 : r.dl.length ≤ 1000000 := by omega
  clear hf
  have r3 := HRow.out _ hb3'
  unfold Row at r3
  go_wp2_with fail
  refine (cp_any r A D ca cd w3 (LA.out _ hb3').1 (LA.out _ hb3').2 hl1 hl2 HnA.out HnD.out).mono ?_
  rintro e w4 ⟨hb4, A4, D4, ca4, cd4, rfl, oA4, oD4⟩
  have lA4 := own_A oA4
  have lD4 := own_D oD4
  have hb4' : Below M W1 w4 := hb3'.trans (hb4.mono (HW.out _ hb3').2)
  clear r3 hb3' hb4 oA4 oD4
  go_wp2_with fail
  refine (encode_any r A4 D4 ca4 cd4 w4 lA4 lD4 hm1 hm2).mono ?_
  rintro e w5 ⟨rfl, hb5⟩
  have hb5' : Below M W1 w5 := hb4'.trans (hb5.mono (HW.out _ hb4').2)
  clear hb4' hb5 lA4 lD4
  have r5 := HRow.out _ hb5'
  unfold Row at r5
  go_wp2_with fail
  refine (rencode_any r A D ca cd w5 (LA.out _ hb5').1 (LA.out _ hb5').2 hm1 hm2).mono ?_
  rintro e w6 ⟨rfl, hb6⟩
  have hb6' : Below M W1 w6 := hb5'.trans (hb6.mono (HW.out _ hb5').2)
  clear hb5' hb6 r5
  obtain ⟨S, hS⟩ : ∃ S, S = encS r := ⟨_, rfl⟩
  obtain ⟨E, hE⟩ : ∃ E, E = checkE r := ⟨_, rfl⟩
  rw [← hS, ← hE]
  have HE := Lib.hid hE
  clear hS hE
  have HB6 : Below M W1 w6.drew := hb6'.drew
  have HZ6 : M ≤ w6.drew.heap.size := (HW.out _ HB6).2
  have hN6 : N < w6.heap.size := by have : w6.drew.heap.size = w6.heap.size := rfl; omega
  go_wp2_with fail
  have x2 : ∀ (x : ExtW w6.heap.size w6.drew) (i : Nat), x.val.cell? ⟨N, i, none⟩ = _ := (HRow.out _ HB6).ext hN6
  refine wp_region_rough (w6.heap.size) 17 [] #[false, false, false, false, false, false, false, false, false, false, false, false, false, false, false, false, false] (by kernel_rfl) rfl rfl ?_
  refine anyR_take 0 _ (nth0) rfl (by kernel_rfl) (by kernel_rfl) (by kernel_rfl) (by kernel_rfl) (l' := #[true, false, false, false, false, false, false, false, false, false, false, false, false, false, false, false, false]) rfl rfl ?_; intro K hK; go_big_quiet_op; go_big_quiet_on
  refine anyR_take 3 _ (nthS (nthS (nthS (nth0)))) rfl (by kernel_rfl) (by kernel_rfl) (by kernel_rfl) (by kernel_rfl) (l' := #[true, false, false, true, false, false, false, false, false, false, false, false, false, false, false, false, false]) rfl rfl ?_; intro K hK; go_big_quiet_op; go_big_quiet_on
  refine anyR_one 1 _ (nthS (nth0)) (by kernel_rfl) (l' := #[true, true, false, true, false, false, false, false, false, false, false, false, false, false, false, false, false]) rfl ?_
  clear x2
  go_wp2_with fail
  refine (cp_any r A D ca cd _ (LA.out _ HB6).1 (LA.out _ HB6).2 hl1 hl2 HnA.out HnD.out).mono ?_
  rintro e w7 ⟨hb7, A7, D7, ca7, cd7, rfl, oA7, oD7⟩
  have lA7 := own_A oA7
  have lD7 := own_D oD7
  clear oA7 oD7
  go_wp2_with fail
  refine OneR_mk (hb7) ?_
  refine anyR_one 2 _ (nthS (nthS (nth0))) (by kernel_rfl) (l' := #[true, true, true, true, false, false, false, false, false, false, false, false, false, false, false, false, false]) rfl ?_
  go_wp2_with fail
  refine (check_any r A7 D7 ca7 cd7 w7 lA7 lD7 (by omega) (by omega)).mono ?_
  rw [← HE.out]
  rintro e w8 ⟨rfl, hb8⟩
  go_wp2_with fail
  refine OneR_mk (hb8.mono hb7.size) ?_
  refine anyR_one 4 _ (nthS (nthS (nthS (nthS (nth0))))) (by kernel_rfl) (l' := #[true, true, true, true, true, false, false, false, false, false, false, false, false, false, false, false, false]) rfl ?_
  have HB8 : Below M W1 w8 := (HB6.trans (hb7.mono HZ6)).trans (hb8.mono (Nat.le_trans HZ6 hb7.size))
  go_wp2_with fail
  refine (rcheck_any r A D ca cd _ (LA.out _ HB8).1 (LA.out _ HB8).2 (by omega) (by omega)).mono ?_
  rw [← check_agree, ← HE.out]
  rintro e w9 ⟨rfl, hb9⟩
  go_wp2_with fail
  refine OneR_mk (hb9.mono (Nat.le_trans hb7.size hb8.size)) ?_
  refine anyR_take0 5 _ (nthS (nthS (nthS (nthS (nthS (nth0)))))) rfl (by kernel_rfl) (by kernel_rfl) (by kernel_rfl) (l' := #[true, true, true, true, true, true, false, false, false, false, false, false, false, false, false, false, false]) rfl rfl ?_; intro K hK; go_big_quiet_op; go_big_quiet_on
  refine anyR_take0 6 _ (nthS (nthS (nthS (nthS (nthS (nthS (nth0))))))) rfl (by kernel_rfl) (by kernel_rfl) (by kernel_rfl) (l' := #[true, true, true, true, true, true, true, false, false, false, false, false, false, false, false, false, false]) rfl rfl ?_; intro K hK; go_big_quiet_op; go_big_quiet_on
  refine anyR_take0 7 _ (nthS (nthS (nthS (nthS (nthS (nthS (nthS (nth0)))))))) rfl (by kernel_rfl) (by kernel_rfl) (by kernel_rfl) (l' := #[true, true, true, true, true, true, true, true, false, false, false, false, false, false, false, false, false]) rfl rfl ?_; intro K hK; go_big_quiet_op; go_big_quiet_on
  refine anyR_take0 8 _ (nthS (nthS (nthS (nthS (nthS (nthS (nthS (nthS (nth0))))))))) rfl (by kernel_rfl) (by kernel_rfl) (by kernel_rfl) (l' := #[true, true, true, true, true, true, true, true, true, false, false, false, false, false, false, false, false]) rfl rfl ?_; intro K hK; go_big_quiet_op; go_big_quiet_on
  refine anyR_take0 9 _ (nthS (nthS (nthS (nthS (nthS (nthS (nthS (nthS (nthS (nth0)))))))))) rfl (by kernel_rfl) (by kernel_rfl) (by kernel_rfl) (l' := #[true, true, true, true, true, true, true, true, true, true, false, false, false, false, false, false, false]) rfl rfl ?_; intro K hK; go_big_quiet_op; go_big_quiet_on
  refine anyR_take0 10 _ (nthS (nthS (nthS (nthS (nthS (nthS (nthS (nthS (nthS (nthS (nth0))))))))))) rfl (by kernel_rfl) (by kernel_rfl) (by kernel_rfl) (l' := #[true, true, true, true, true, true, true, true, true, true, true, false, false, false, false, false, false]) rfl rfl ?_; intro K hK; go_big_quiet_op; go_big_quiet_on
  refine anyR_take0 11 _ (nthS (nthS (nthS (nthS (nthS (nthS (nthS (nthS (nthS (nthS (nthS (nth0)))))))))))) rfl (by kernel_rfl) (by kernel_rfl) (by kernel_rfl) (l' := #[true, true, true, true, true, true, true, true, true, true, true, true, false, false, false, false, false]) rfl rfl ?_; intro K hK; go_big_quiet_op; go_big_quiet_on
  refine anyR_take0 12 _ (nthS (nthS (nthS (nthS (nthS (nthS (nthS (nthS (nthS (nthS (nthS (nthS (nth0))))))))))))) rfl (by kernel_rfl) (by kernel_rfl) (by kernel_rfl) (l' := #[true, true, true, true, true, true, true, true, true, true, true, true, true, false, false, false, false]) rfl rfl ?_; intro K hK; go_big_quiet_op; go_big_quiet_on
  refine anyR_take0 13 _ (nthS (nthS (nthS (nthS (nthS (nthS (nthS (nthS (nthS (nthS (nthS (nthS (nthS (nth0)))))))))))))) rfl (by kernel_rfl) (by kernel_rfl) (by kernel_rfl) (l' := #[true, true, true, true, true, true, true, true, true, true, true, true, true, true, false, false, false]) rfl rfl ?_; intro K hK; go_big_quiet_op; go_big_quiet_on
  refine anyR_take0 14 _ (nthS (nthS (nthS (nthS (nthS (nthS (nthS (nthS (nthS (nthS (nthS (nthS (nthS (nthS (nth0))))))))))))))) rfl (by kernel_rfl) (by kernel_rfl) (by kernel_rfl) (l' := #[true, true, true, true, true, true, true, true, true, true, true, true, true, true, true, false, false]) rfl rfl ?_; intro K hK; go_big_quiet_op; go_big_quiet_on
  refine anyR_take0 15 _ (nthS (nthS (nthS (nthS (nthS (nthS (nthS (nthS (nthS (nthS (nthS (nthS (nthS (nthS (nthS (nth0)))))))))))))))) rfl (by kernel_rfl) (by kernel_rfl) (by kernel_rfl) (l' := #[true, true, true, true, true, true, true, true, true, true, true, true, true, true, true, true, false]) rfl rfl ?_; intro K hK; go_big_quiet_op; go_big_quiet_on
  refine anyR_take0 16 _ (nthS (nthS (nthS (nthS (nthS (nthS (nthS (nthS (nthS (nthS (nthS (nthS (nthS (nthS (nthS (nthS (nth0))))))))))))))))) rfl (by kernel_rfl) (by kernel_rfl) (by kernel_rfl) (l' := #[true, true, true, true, true, true, true, true, true, true, true, true, true, true, true, true, true]) rfl rfl ?_; intro K hK; go_big_quiet_op; go_big_quiet_on
  refine anyR_end (by kernel_rfl) ?_
  go_wp2_with fail
  go_ret
  exact ⟨rfl, by rw [← HN.out]; exact (HW.out _ (HB8.trans (hb9.mono (HW.out _ HB8).2))).1⟩

end Go.Proofs.Ytllakkepphpfmaa
