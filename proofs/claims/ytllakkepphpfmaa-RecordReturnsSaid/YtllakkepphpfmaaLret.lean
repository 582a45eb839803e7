/- RecordReturns: Decode restores each record in order from its bytes, and accepts no beginning of them. -/
import Derived.Test.YtllakkepphpfmaaOpen
import Derived.Test.YtllakkepphpfmaaRetP
namespace Go.Proofs.Ytllakkepphpfmaa
open Go.RowKit
open Rc

set_option maxRecDepth 100000 in
set_option maxHeartbeats 2000000 in
theorem recordReturns_walk (r : Rec) (A D : Option Addr) (ca cd : Nat) (cut : Int) (hc0 : 0 ≤ cut) (hc1 : cut ≤ 65535) (w : World) (hr : RecIn w r A D) :
    Calls Try.prog 5 #[.agg #[.int .i64 r.slots, .slice A r.al.length ca, .slice D r.dl.length cd], .int .u16 cut] w fun e w' => e = .returned (.bool true) ∧ Below w.heap.size w w' := by
  obtain ⟨hA, hD, hm1, hm2, hnA, hnD⟩ := hr
  have few := fun W => few_any r A D ca cd W hm1 hm2
  have HF := Lib.hid few
  have HnA := Lib.hid hnA
  have HnD := Lib.hid hnD
  clear few hnA hnD
  go_enter Try.func5, Try.ntmps5
  go_wp2_with fail
  generalize hW1 : World.alloc _ _ = W1
  have bR : Blk W1 w.heap.size 28 [.int .i64 r.slots, .slice A r.al.length ca, .slice D r.dl.length cd] := by rw [← hW1]; exact Blk.new' _ [.int .i64 r.slots, .slice A r.al.length ca, .slice D r.dl.length cd] rfl
  have hb1 : Below w.heap.size w W1 := by rw [← hW1]; exact (Below.refl _ _).alloc (Nat.le_refl _) _
  clear hW1
  obtain ⟨N, hN⟩ : ∃ N, N = w.heap.size := ⟨_, rfl⟩
  rw [← hN] at bR hb1 hA hD ⊢
  obtain ⟨M, hM⟩ : ∃ M, M = W1.heap.size := ⟨_, rfl⟩
  have hNM : N < M := by rw [hM]; exact bR.lt
  have LA : Hid (∀ W, Below M W1 W → LiesA W W.heap.size A r.al ∧ LiesD W W.heap.size D r.dl) := Lib.hid fun W h => ⟨((hA.below hb1).below_le h (by omega)).more (by have := h.size; omega), ((hD.below hb1).below_le h (by omega)).more (by have := h.size; omega)⟩
  have HRow : Hid (∀ W, Below M W1 W → Row W N [.int .i64 r.slots, .slice A r.al.length ca, .slice D r.dl.length cd]) := Lib.hid fun W h => (bR.below h hNM).row
  have HW : Hid (∀ W, Below M W1 W → Below N w W ∧ M ≤ W.heap.size) := Lib.hid fun W h => ⟨hb1.trans (h.mono (by omega)), by have := h.size; omega⟩
  have HN := Lib.hid hN
  have HM := Lib.hid hM
  clear hN hA hD bR hb1
  refine (awake_any W1).mono ?_
  rintro e w2 ⟨rfl, hb2⟩
  rw [← hM] at hb2
  clear hM
  have r2 := HRow.out _ hb2
  unfold Row at r2
  go_wp2_with fail
  refine (HF.out w2).mono ?_
  rintro e w3 ⟨rfl, hb3⟩
  have hb3' : Below M W1 w3 := hb2.trans (hb3.mono (HW.out _ hb2).2)
  clear r2 hb2 hb3
  by_cases hfew : r.al.length ≤ 150 ∧ r.dl.length ≤ 100
  case neg =>
    have hf : (decide (r.al.length ≤ 150) && decide (r.dl.length ≤ 100)) = false := by
      rw [Bool.eq_false_iff]; intro h; exact hfew (by simpa using h)
    rw [hf]
    clear hf hfew
    go_wp2_with fail
    refine (awake_any w3).mono ?_
    rintro e w4 ⟨rfl, hb4⟩
    have hb4' : Below M W1 w4 := hb3'.trans (hb4.mono (HW.out _ hb3').2)
    go_wp2_with fail
    go_ret
    exact ⟨rfl, by rw [← HN.out]; exact (HW.out _ hb4').1⟩
  have hf : (decide (r.al.length ≤ 150) && decide (r.dl.length ≤ 100)) = true := by simpa using hfew
  rw [hf]
  have hl1 : r.al.length ≤ 1000000 := by omega
  have hl2 : r.dl.length ≤ 1000000 := by omega
  clear hf
  have r3 := HRow.out _ hb3'
  unfold Row at r3
  go_wp2_with fail
  refine (cp_any r A D ca cd w3 (LA.out _ hb3').1 (LA.out _ hb3').2 hl1 hl2 HnA.out HnD.out).mono ?_
  rintro e w4 ⟨hb4, A4, D4, ca4, cd4, rfl, oA4, oD4⟩
  have lA4 := own_A oA4
  have lD4 := own_D oD4
  have hb4' : Below M W1 w4 := hb3'.trans (hb4.mono (HW.out _ hb3').2)
  clear r3 hb3' hb4 oA4 oD4
  go_wp2_with fail
  cases hgd : good r with
  | false =>
    have hck : checkE r = 1 := by simp [checkE, hgd]
    have HCK := Lib.hid hck
    refine (encode_bad r A4 D4 ca4 cd4 w4 lA4 lD4 hm1 hm2 hgd).mono ?_
    rintro e w5 ⟨rfl, hb5⟩
    have hb5' : Below M W1 w5 := hb4'.trans (hb5.mono (HW.out _ hb4').2)
    clear hb4' hb5 lA4 lD4 hgd hck
    have r5 := HRow.out _ hb5'
    unfold Row at r5
    go_wp2_with fail
    refine (cp_any r A D ca cd w5 (LA.out _ hb5').1 (LA.out _ hb5').2 hl1 hl2 HnA.out HnD.out).mono ?_
    rintro e w6 ⟨hb6, A6, D6, ca6, cd6, rfl, oA6, oD6⟩
    have lA6 := own_A oA6
    have lD6 := own_D oD6
    have hb6' : Below M W1 w6 := hb5'.trans (hb6.mono (HW.out _ hb5').2)
    clear r5 hb5' hb6 oA6 oD6
    go_wp2_with fail
    refine (check_any r A6 D6 ca6 cd6 w6 lA6 lD6 hm1 hm2).mono ?_
    rw [HCK.out]
    rintro e w7 ⟨rfl, hb7⟩
    have hb7' : Below M W1 w7 := hb6'.trans (hb7.mono (HW.out _ hb6').2)
    clear hb6' hb7 lA6 lD6
    go_wp2_with fail
    go_ret
    exact ⟨rfl, by rw [← HN.out]; exact (HW.out _ hb7').1⟩
  | true =>
    obtain ⟨hok, hdr⟩ := dec_enc hgd
    have hpre := dec_prefix hgd
    have hlen := encR_length r
    have hpos := encR_pos r
    refine (encode_good r A4 D4 ca4 cd4 w4 lA4 lD4 hgd).mono ?_
    rintro e w5 ⟨rfl, hb5⟩
    have hb5' : Below M W1 w5 := hb4'.trans (hb5.mono (HW.out _ hb4').2)
    obtain ⟨S, hS⟩ : ∃ S, S = encR r := ⟨_, rfl⟩
    rw [← hS] at hok hdr hpre hlen hpos ⊢
    have hl3 : S.length ≤ 100000 := by omega
    have HOK := Lib.hid hok
    have HDR := Lib.hid hdr
    have HPR := Lib.hid hpre
    clear hb4' hb5 lA4 lD4 hgd hok hdr hpre hS hlen
    have hne : S.isEmpty = false := by cases S with
      | nil => simp at hpos
      | cons _ _ => rfl
    have hne2 : ¬ S = [] := by intro h; rw [h] at hne; cases hne
    go_wp2_with fail
    refine (decode_any S w5 hl3).mono ?_
    rintro e w6 ⟨hb6, hp6⟩
    rw [if_pos HOK.out, HDR.out] at hp6
    obtain ⟨A6, D6, ca6, cd6, rfl, lA6, lD6⟩ := hp6
    have hb6' : Below M W1 w6 := hb5'.trans (hb6.mono (HW.out _ hb5').2)
    clear hb5' hb6
    have k0 : 0 ≤ cut % (S.length : Int) := Int.emod_nonneg _ (by omega)
    have k1 : cut % (S.length : Int) < (S.length : Int) := Int.emod_lt_of_pos _ (by omega)
    have k2 : cut % (S.length : Int) ≤ (S.length : Int) := by omega
    go_wp2_with fail
    generalize hW7 : World.alloc _ _ = W7
    have b7 : Blk W7 w6.heap.size 28 [.int .i64 r.slots, .slice A6 r.al.length ca6, .slice D6 r.dl.length cd6] := by rw [← hW7]; exact Blk.new' _ [.int .i64 r.slots, .slice A6 r.al.length ca6, .slice D6 r.dl.length cd6] rfl
    have hw7 : Below w6.heap.size w6 W7 := by rw [← hW7]; exact (Below.refl _ _).alloc (Nat.le_refl _) _
    have lA7 := lA6.below hw7
    have lD7 := lD6.below hw7
    have hb7 : Below M W1 W7 := hb6'.trans (hw7.mono (HW.out _ hb6').2)
    have hz7 : w6.heap.size < W7.heap.size := b7.lt
    obtain ⟨G, hG⟩ : ∃ G, G = w6.heap.size := ⟨_, rfl⟩
    rw [← hG] at b7 lA7 lD7 hz7 ⊢
    have HMG : M ≤ G := by rw [hG]; exact (HW.out _ hb6').2
    clear hW7 lA6 lD6 hw7 hG hb6'
    obtain ⟨k, hk⟩ : ∃ k : Nat, k = (cut % (S.length : Int)).toNat := ⟨_, rfl⟩
    have hkl : k < S.length := by omega
    have hex : (⟨S.toArray⟩ : ByteArray).extract 0 (cut % (S.length : Int)).toNat = ⟨(S.take k).toArray⟩ := by
      rw [← hk]
      apply ByteArray.ext
      simp only [ByteArray.data_extract, List.extract_toArray]
      rw [List.extract_eq_take_drop]
      simp
    rw [hex]
    have hp8 := HPR.out k hkl
    clear hex hk
    refine (decode_any (S.take k) W7 (by rw [List.length_take]; omega)).mono ?_
    rintro e w8 ⟨hb8, hp9⟩
    rw [if_neg (by rw [hp8]; simp)] at hp9
    subst hp9
    have b8 := b7.below hb8 hz7
    have hb8' : Below M W1 w8 := hb7.trans (hb8.mono (HW.out _ hb7).2)
    have lA8 := lA7.below_le hb8 (by omega)
    have lD8 := lD7.below_le hb8 (by omega)
    have hz8 : G < w8.heap.size := b8.lt
    have c8 := b8.row
    have r8 := HRow.out _ hb8'
    unfold Row at c8 r8
    have hN8 : N < w8.heap.size := by omega
    clear b7 lA7 lD7 hb7 hp8
    have hz := hb8.size
    go_wp2_with fail
    generalize hW9 : World.alloc _ _ = W9
    have hw9 : Below w8.heap.size w8 W9 := by rw [← hW9]; exact (Below.refl _ _).alloc (Nat.le_refl _) _
    have hb9 : Below M W1 W9 := hb8'.trans (hw9.mono (HW.out _ hb8').2)
    clear hW9 c8 r8
    refine (same_any r r A6 D6 A D ca6 cd6 ca cd W9 ((lA8.below_le hw9 (by omega)).more (by have := hw9.size; omega)) ((lD8.below_le hw9 (by omega)).more (by have := hw9.size; omega)) (LA.out _ hb9).1 (LA.out _ hb9).2 hl1 hl2 hl1 hl2).mono ?_
    rw [show sameB r r = true by simp [sameB]]
    rintro e w10 ⟨rfl, hb10⟩
    have hb10' : Below M W1 w10 := hb9.trans (hb10.mono (HW.out _ hb9).2)
    go_wp2_with fail
    go_ret
    exact ⟨rfl, by rw [← HN.out]; exact (HW.out _ hb10').1⟩

end Go.Proofs.Ytllakkepphpfmaa
