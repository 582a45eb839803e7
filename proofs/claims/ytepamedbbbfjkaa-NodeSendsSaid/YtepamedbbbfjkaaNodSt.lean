/- Walk: Sent of package node, of a frame that is held, to a node that has not acknowledged it. -/
import Derived.Test.YtepamedbbbfjkaaNodIi
import Derived.Test.YtepamedbbbfjkaaNodSp
import Derived.Test.YtepamedbbbfjkaaNodC1
namespace Go.Proofs.Ytepamedbbbfjkaa
open Go.RowKit
open Nd

/-- The block of a holding's list of nodes. -/
def Ho.blk (h : Ho) : Option Nat := (Value.slice h.A h.ak.length h.c).ownBlock
def AptH (l : List Ho) : Prop := l.Pairwise (fun a b => ∀ g, a.blk = some g → b.blk ≠ some g)
theorem apt_snoc {acc : List Ho} {h : Ho} {B : Nat} (ha : AptH acc) (h1 : ∀ a ∈ acc, ∀ g, a.blk = some g → g < B) (h2 : ∀ g, h.blk = some g → B ≤ g) : AptH (acc ++ [h]) := by
  refine List.pairwise_append.2 ⟨ha, List.pairwise_singleton _ _, fun a hm b hb g hg e => ?_⟩
  obtain rfl : b = h := by simpa using hb
  have e1 := h1 a hm g hg
  have e2 := h2 g e
  omega
theorem apt_ne {l : List Ho} (ha : AptH l) {i j : Nat} {a b : Ho} (hi : l[i]? = some a) (hj : l[j]? = some b) (hij : i ≠ j) (g : Nat) (hg : a.blk = some g) : b.blk ≠ some g := by
  obtain ⟨hi1, rfl⟩ := List.getElem?_eq_some_iff.1 hi
  obtain ⟨hj1, rfl⟩ := List.getElem?_eq_some_iff.1 hj
  rcases Nat.lt_or_gt_of_ne hij with h | h
  · exact List.pairwise_iff_getElem.1 ha i j hi1 hj1 h g hg
  · exact fun e => List.pairwise_iff_getElem.1 ha j i hj1 hi1 h g e hg
/-- What has been copied so far. -/
def CopRel2 (w : World) (l : List Ho) (k : Nat) (v : Value) (wr : World) : Prop := Below w.heap.size w wr ∧ ∃ acc, acc.length = k ∧ OutH wr w.heap.size v acc ∧ acc.map Ho.d = (l.take k).map Ho.d ∧ AptH acc

set_option maxRecDepth 100000 in
set_option maxHeartbeats 4000000 in
theorem copied2_any (l : List Ho) (A : Option Addr) (c : Nat) (w : World) (hD : LiesH w w.heap.size A l) (hl : l.length ≤ 1000000) :
    Calls Try.prog 29 #[.slice A l.length c] w fun e w' => Below w.heap.size w w' ∧ ∃ v l', e = .returned v ∧ OutH w' w.heap.size v l' ∧ l'.map Ho.d = l.map Ho.d ∧ AptH l' := by
  obtain ⟨n, hn⟩ : ∃ n, n = l.length := ⟨_, rfl⟩
  rw [← hn] at hl ⊢
  have HL := Lib.hid hn
  have HD := Lib.hid (fun W (h : Below w.heap.size w W) => LiesH.later hD h)
  clear hn hD
  obtain ⟨i0, hi, hz0, hz1, hz2⟩ := info_parts Try.infoH
  go_enter Try.func29, Try.ntmps29
  go_wp2_with fail
  go_loopw [3, 8] (fun s3 i wr => ∃ (k : Nat) (v : Value), v = s3 ∧ k ≤ n ∧ i = .int .i64 k ∧ Hid (CopRel2 w l k v wr)) (fun _ i _ => n - (intOf i).toNat)
  case atStart => exact ⟨0, _, rfl, Nat.zero_le _, rfl, Lib.hid ⟨Below.refl _ _, [], rfl, OutH.nil _ _, rfl, List.Pairwise.nil⟩⟩
  case round =>
    obtain ⟨k, v, rfl, hk, rfl, HR⟩ := hrel
    by_cases hlt : k < n
    case neg =>
      obtain ⟨hb, acc, hlen, hout, hmap, hapt⟩ := HR.out
      have HApt := Lib.hid hapt
      clear hapt
      obtain ⟨A3, c3, hv3⟩ := own_form2 hout.1
      have HO := Lib.hid hout
      have HM : Hid (acc.map Ho.d = l.map Ho.d) := Lib.hid (by rw [hmap, List.take_of_length_le (by rw [← HL.out]; omega)])
      clear hout hmap HR
      subst hv3
      go_wp2_with fail
      go_ret
      exact ⟨hb, _, acc, rfl, HO.out, HM.out, HApt.out⟩
    obtain ⟨hb, acc, hlen, hout, hmap, hapt⟩ := HR.out
    have HApt := Lib.hid hapt
    clear hapt
    obtain ⟨a, ha⟩ := get_of_lt (l := l) (k := k) (by rw [← HL.out]; exact hlt)
    obtain ⟨b, off, rfl, hbB, hcs⟩ := (HD.out _ hb).1.at_ ha
    have HI := Lib.hid (fun W (h : Below w.heap.size w W) => (HD.out W h).inn ha)
    have HM : Hid ((l.take (k + 1)).map Ho.d = acc.map Ho.d ++ [a.d]) := Lib.hid (by rw [take_succ_map ha, hmap])
    have c0 := hcs k a ha 0 _ rfl
    have c1 := hcs k a ha 1 _ rfl
    have c2 := hcs k a ha 2 _ rfl
    simp only [Nat.add_zero] at c0 c1 c2
    have HO := Lib.hid hout
    have HB := Lib.hid hb
    have HLen := Lib.hid hlen
    clear hcs ha hout hmap HR hb hlen
    go_upto_region 5 with fail
    generalize hW1 : wr.alloc _ = W1
    have ba : Blk W1 wr.heap.size 45 [.int .i64 a.fl, .int .i64 a.fr, .slice a.A a.ak.length a.c] := by rw [← hW1]; exact Blk.new2 _ [.int .i64 a.fl, .int .i64 a.fr, .slice a.A a.ak.length a.c] rfl
    have hb1 : Below w.heap.size w W1 := by rw [← hW1]; exact HB.out.alloc HB.out.size _
    have hbr : Below wr.heap.size wr W1 := by rw [← hW1]; exact (Below.refl _ _).alloc (Nat.le_refl _) _
    have HO1 := Lib.hid (HO.out.below hbr (Nat.le_refl _))
    have HO0 := HO
    have hwz := HB.out.size
    clear hW1 c0 c1 c2 hbr HO
    have ca := ba.row
    unfold Row at ca
    go_wp2_with fail
    refine (own_any a _ (HI.out _ hb1).1 (HI.out _ hb1).2).mono ?_
    rintro e w2 ⟨hb2, h', hd', rfl, hO'⟩
    have hB2 : Below w.heap.size w w2 := hb1.trans (hb2.mono hb1.size)
    have HOw := Lib.hid (HO1.out.below hb2 (Nat.le_refl _))
    have HOI := Lib.hid (hO'.base (b' := w.heap.size) hb1.size)
    have HDD := Lib.hid hd'
    have HApt3 : Hid (AptH (acc ++ [h'])) := Lib.hid (apt_snoc (B := W1.heap.size) HApt.out (fun a ha g hg => ((HO1.out.2 a ha).1.lt g hg).2) (fun g hg => (hO'.1.lt g hg).1))
    clear HO1 hO' hd' ca
    go_wp2_with (at_builtin; refine wpList_append_own_at _ rfl (.tmp 12) (.tmp 15) 23 rfl w.heap.size 45 i0 (.agg #[.int .i64 0, .int .i64 0, .slice none 0 0]) 3 40 Try.underlying23 hi hz0 hz1 hz2 rfl (by decide) v acc.length (acc.flatMap Ho.row) rfl (HOw.out.1.alloc _) ⟨w2.heap.size, 0, none⟩ 1 1 [.int .i64 h'.fl, .int .i64 h'.fr, .slice h'.A h'.ak.length h'.c] rfl rfl ?e0 ?e1 ?e2 ?e3 ?e4 ?_)
    case e0 => exact (Blk.new2 45 [.int .i64 h'.fl, .int .i64 h'.fr, .slice h'.A h'.ak.length h'.c] rfl).news2
    case e1 => exact oneH _
    case e2 => unfold maxLen; have := HLen.out; omega
    case e3 => have := HLen.out; omega
    case e4 => simp; have := hB2.size; omega
    intro v3 w3 ho3 hg3 hnil3 hat3
    clear hnil3 hat3
    have hb3 : Below w.heap.size w w3 := (hB2.alloc hB2.size _).grown hg3 (by simp; have := hB2.size; omega) (by intro g hg; exact (HOw.out.1.lt g hg).1)
    have hbn : Below w2.heap.size w2 (w2.alloc (.cells [.int .i64 h'.fl, .int .i64 h'.fr, .slice h'.A h'.ak.length h'.c].toArray 45)) := (Below.refl _ _).alloc (Nat.le_refl _) _
    have O3 : Hid (CopRel2 w l (k + 1) v3 w3) := Lib.hid ⟨hb3, acc ++ [h'], by simp [HLen.out], OutH.turn (HOw.out.below hbn (Nat.le_refl _)) hg3 (by rw [flat_snoc, List.length_append]; exact ho3) (fun x hx => by
      rcases List.mem_append.1 hx with hx | hx
      · exact (HOw.out.2 x hx).below hbn (Nat.le_refl _)
      · obtain rfl : x = h' := by simpa using hx
        exact HOI.out.below hbn (Nat.le_refl _)), by rw [HM.out, List.map_append, List.map_cons, List.map_nil, HDD.out], HApt3.out⟩
    obtain ⟨A3, c3, hv3⟩ := own_form2 ho3
    clear ho3 hg3 HOw HOI hbn hb3
    subst hv3
    go_wp2_with fail
    go_roundw
    case rel => exact ⟨k + 1, _, rfl, by omega, by go_num, O3⟩
    case measure => simp [intOf]; omega


theorem sent1_any (a xt : Int) (g : Nat) (w : World) (hc : w.cell? ⟨g, 3, none⟩ = some (.int .i64 xt)) :
    Calls Try.prog 54 #[.int .i64 a, .pointer (some ⟨g, 0, none⟩)] w fun e w' => e = .returned (.bool (decide (xt < a))) ∧ Below w.heap.size w w' := by
  go_enter Try.func54, Try.ntmps54
  go_wp2_with fail
  go_ret
  exact ⟨rfl, Below.refl _ _⟩

set_option maxRecDepth 100000 in
set_option maxHeartbeats 4000000 in
theorem sent_any (l : List Ho) (k : Nat) (h : Ho) (xs xo xf xt xl : Int) (D : Option Addr) (cd : Nat) (w : World) (hD : LiesH w w.heap.size D l) (hl : l.length ≤ 1000) (hk : l[k]? = some h) (hT : findH (l.map Ho.d) xl = (k : Int)) (hC : conI h.ak xt = false) (hak : h.ak.length ≤ 1000) :
    Calls Try.prog 25 #[.slice D l.length cd, .agg #[.int .i64 xs, .int .i64 xo, .int .i64 xf, .int .i64 xt, .int .i64 xl], .bool true] w fun e w' => Below w.heap.size w w' ∧ ∃ v l', e = .returned v ∧ OutH w' w.heap.size v l' ∧ l'.map Ho.d = (l.map Ho.d).set k ⟨h.fl, h.fr, insI h.ak xt⟩ := by
  obtain ⟨N, hN⟩ : ∃ N, N = w.heap.size := ⟨_, rfl⟩
  obtain ⟨W1, hW1⟩ : ∃ W1, W1 = w.alloc (.cells #[.int .i64 xs, .int .i64 xo, .int .i64 xf, .int .i64 xt, .int .i64 xl] 25) := ⟨_, rfl⟩
  have hb1 : Below N w W1 := by rw [hW1, hN]; exact (Below.refl _ _).alloc (Nat.le_refl _) _
  have bC : Blk W1 N 25 [.int .i64 xs, .int .i64 xo, .int .i64 xf, .int .i64 xt, .int .i64 xl] := by rw [hW1]; exact Blk.new2 _ [.int .i64 xs, .int .i64 xo, .int .i64 xf, .int .i64 xt, .int .i64 xl] hN
  obtain ⟨M, hM⟩ : ∃ M, M = W1.heap.size := ⟨_, rfl⟩
  have hNM : N < M := by rw [hM]; exact bC.lt
  have HW := Lib.hid (fun W (h' : Below M W1 W) => (show Below w.heap.size w W ∧ M ≤ W.heap.size ∧ Blk W N 25 [.int .i64 xs, .int .i64 xo, .int .i64 xf, .int .i64 xt, .int .i64 xl] from ⟨by rw [← hN]; exact hb1.trans (h'.mono (by omega)), by rw [hM]; exact h'.size, bC.below h' hNM⟩))
  have HCo := Lib.hid (copied2_any l D cd W1 (LiesH.later hD (by rw [← hN]; exact hb1)) (by omega))
  have hkl : k < l.length := (List.getElem?_eq_some_iff.1 hk).1
  obtain ⟨n, hn⟩ : ∃ n, n = l.length := ⟨_, rfl⟩
  have HW1 := Lib.hid hW1
  have HM := Lib.hid hM
  have HN := Lib.hid hN
  have HT := Lib.hid hT
  have HKd := Lib.hid (map_get_d hk)
  rw [← hn] at HCo hkl hl ⊢
  have HNn := Lib.hid hn
  clear hD hb1 hW1 hM bC hN hT hk hn
  go_enter Try.func25, Try.ntmps25
  go_wp2_with fail
  rw [← HW1.out, ← HN.out]
  refine HCo.out.mono ?_
  rintro e w2 ⟨hb2, v2, l2, rfl, ho2, hm2, hapt⟩
  rw [← HM.out] at hb2 ho2
  have hl2 : l2.length = n := by rw [HNn.out]; simpa using congrArg List.length hm2
  obtain ⟨h2, hk2⟩ := get_of_lt (l := l2) (k := k) (by omega)
  have hd2 : h2.d = h.d := by
    have h1 := map_get_d hk2
    rw [hm2, HKd.out] at h1
    injection h1 with h1
    exact h1.symm
  obtain ⟨f2, r2, ak2, A2, c2⟩ := h2
  simp only [Ho.d, Hd.mk.injEq] at hd2
  obtain ⟨rfl, rfl, rfl⟩ := hd2
  obtain ⟨q, hq⟩ : ∃ q, q = h.ak.length := ⟨_, rfl⟩
  have hin := (ho2.2 _ (List.mem_of_getElem? hk2)).1
  dsimp only at hin
  rcases ho2.1.2 with ⟨_, h0⟩ | ⟨g, cap, cur, hv, hgM, hgh, hc1, hcm, _⟩
  · omega
  rw [hl2] at hv
  subst hv
  have HO2 := Lib.hid ho2
  have HIn : Hid (w2.ownsRow M 3 1 (.slice A2 q c2) q (flatI h.ak)) := Lib.hid (by rw [hq]; exact hin)
  have hg2 : g < w2.heap.size := heap_lt hgh
  have hne : (.slice A2 q c2 : Value).ownBlock ≠ some g := by
    rcases own_apart HIn.out ho2.1 (by decide) with h' | h'
    · rw [h']; simp
    · exact h'
  have hcell : w2.cell? ⟨g, k * 3 + 2, none⟩ = some (.slice A2 q c2) := by
    have := ho2.1.cells (g := g) rfl (k * 3 + 2) (.slice A2 q c2) (by rw [flat_get Ho.row 3 Ho.row_len l2 k 2 _ hk2 (by omega), hq]; rfl)
    rwa [add_off] at this
  have hcm' : cap ≤ 9223372036854775807 := by unfold maxLen at hcm; omega
  have hncap : n ≤ cap := by rw [← hl2]; exact hc1
  have hlies := OutH.lies ho2
  obtain ⟨A9, c9, e9, hL⟩ := hlies
  simp only [Value.slice.injEq] at e9
  have HFd := hfind_any _ xl A9 c9 w2 hL (by omega)
  rw [hm2, HT.out, ← e9.1, ← e9.2.2, hl2] at HFd
  have HFD := Lib.hid HFd
  obtain ⟨hB2, hM2, bC2⟩ := HW.out _ hb2
  have cC := bC2.row
  unfold Row at cC
  have HM2 := Lib.hid hm2
  have HK2 := Lib.hid hk2
  have HApt := Lib.hid hapt
  have HL2 := Lib.hid hl2
  have HC := Lib.hid hC
  have HQ := Lib.hid hq
  have hq1 : q ≤ 1000 := by rw [hq]; exact hak
  clear hm2 hin ho2 hL e9 HFd HCo hgh hk2 hapt hl2 hC hak hq hc1 hcm
  go_wp2_with fail
  refine HFD.out.mono ?_
  rintro e w3 ⟨rfl, hb3⟩
  have hB3 : Below M W1 w3 := hb2.trans (hb3.mono hM2)
  obtain ⟨hB3w, hM3, bC3⟩ := HW.out _ hB3
  have c3 : w3.cell? ⟨g, k * 3 + 2, none⟩ = some (.slice A2 q c2) := (hb3.cell (p := ⟨g, k * 3 + 2, none⟩) hg2).trans hcell
  have hg3 : g < w3.heap.size := Nat.lt_of_lt_of_le hg2 hb3.size
  have HO3 := Lib.hid (HO2.out.below hb3 (Nat.le_refl _))
  have HIn3 := Lib.hid (own_below HIn.out hb3 (Nat.le_refl _))
  have hk0 : decide ((k : Int) < 0) = false := decide_eq_false (by omega)
  have hk0' : ¬ (k : Int) < 0 := by omega
  have xC : ∀ (x : ExtW w3.heap.size w3) (i : Nat), x.val.cell? ⟨N, i, none⟩ = _ := bC3.row.ext bC3.lt
  have xg : ∀ (x : ExtW w3.heap.size w3), x.val.cell? ⟨g, k * 3 + 2, none⟩ = some (.slice A2 q c2) := fun x => (x.cell _ hg3).trans c3
  have HCt := Lib.hid (fun (x : ExtW w3.heap.size w3) => (by have := contains_any h.ak xt A2 c2 x.val (own_I (by have := own_below HIn3.out x.below (Nat.le_refl _); rw [HQ.out] at this; exact this)) (by have := HQ.out; omega); rw [HC.out, ← HQ.out] at this; exact this : Calls Try.prog 24 #[.slice A2 q c2, .int .i64 xt] x.val fun e w' => e = .returned (.bool false) ∧ x.val = w'))
  clear cC hcell HO2 HIn HFD bC2
  go_wp2_with fail
  refine wp_region_ext w3.heap.size (by kernel_rfl) (by kernel_rfl) ?_
  repeat (go_big_quiet_step ((go_at_call 24; exact Calls.ext_same (HCt.out _))))
  refine wpQuiet_nil ?_
  rintro _ ⟨x, rfl⟩
  obtain ⟨w4, hb4⟩ := x
  dsimp only
  have hB4 : Below M W1 w4 := hB3.trans (hb4.mono hM3)
  have hg4 : g < w4.heap.size := Nat.lt_of_lt_of_le hg3 hb4.size
  have c4 : w4.cell? ⟨g, k * 3 + 2, none⟩ = some (.slice A2 q c2) := (hb4.cell (p := ⟨g, k * 3 + 2, none⟩) hg3).trans c3
  have HO4 := Lib.hid (HO3.out.below hb4 (Nat.le_refl _))
  have HIn4 := Lib.hid (own_below HIn3.out hb4 (Nat.le_refl _))
  have hix := indexI_any (fun n => decide (xt < n)) 54 #[.pointer (some ⟨N, 0, none⟩)] h.ak A2 c2 w4 (enters_of Try.func54 (by kernel_rfl) rfl) (own_I (by have := HIn4.out; rw [HQ.out] at this; exact this)) (by have := HQ.out; omega) (fun W hW a ha => sent1_any a xt N W (by have := (HW.out W (hB4.trans (hW.mono (HW.out _ hB4).2.1))).2.2.row; exact this 3))
  rw [← HQ.out] at hix
  clear xC xg HCt HO3 HIn3 c3 bC3
  rcases insI_at xt h.ak 0 with ⟨hx1, hx2⟩ | ⟨i, hx1, hx3, hx2⟩
  · rw [hx1] at hix
    have HIx := Lib.hid (show Calls Try.prog 53 #[.slice A2 q c2, .func (.func 54) #[] #[.pointer (some ⟨N, 0, none⟩)]] w4 fun e w' => e = .returned (.int .i64 (-1)) ∧ Below w4.heap.size w4 w' from hix)
    have HIx2 : Hid (insI h.ak xt = h.ak.take q ++ xt :: h.ak.drop q) := Lib.hid (by rw [HQ.out, List.take_of_length_le (Nat.le_refl _), List.drop_of_length_le (Nat.le_refl _)]; exact hx2)
    clear hix hx1 hx2
    go_wp2_with fail
    refine HIx.out.mono ?_
    rintro e w5 ⟨rfl, hb5⟩
    have hB5 : Below M W1 w5 := hB4.trans (hb5.mono (HW.out _ hB4).2.1)
    have c5 : w5.cell? ⟨g, k * 3 + 2, none⟩ = some (.slice A2 q c2) := (hb5.cell (p := ⟨g, k * 3 + 2, none⟩) hg4).trans c4
    have hg5 : g < w5.heap.size := Nat.lt_of_lt_of_le hg4 hb5.size
    have HO5 := Lib.hid (HO4.out.below hb5 (Nat.le_refl _))
    have HIn5 := Lib.hid (own_below HIn4.out hb5 (Nat.le_refl _))
    obtain ⟨hB5w, hM5, bC5⟩ := HW.out _ hB5
    clear HIx HO4 HIn4 c4 hb5
    go_wp2_with fail
    have hB5d : Below M W1 w5.drew := hB5.drew
    have xC : ∀ (x : ExtW w5.heap.size w5.drew) (i : Nat), x.val.cell? ⟨N, i, none⟩ = _ := (Row.drew bC5.row).ext bC5.lt
    have xg : ∀ (x : ExtW w5.heap.size w5.drew), x.val.cell? ⟨g, k * 3 + 2, none⟩ = some (.slice A2 q c2) := fun x => (x.cell _ hg5).trans c5
    refine wp_region_rough (w5.heap.size) 15 [11, 14] #[false, false, false, false, false, false, false, false, false, false, false, false, false, false, false] (by kernel_rfl) rfl rfl ?_
    generalize hwd : w5.drew = wd at xC xg ⊢
    have hBd : Below M W1 wd := by rw [← hwd]; exact hB5d
    have bCd : Blk wd N 25 [.int .i64 xs, .int .i64 xo, .int .i64 xf, .int .i64 xt, .int .i64 xl] := by rw [← hwd]; exact bC5.drew
    have HInd : Hid (wd.ownsRow M 3 1 (.slice A2 q c2) q (flatI h.ak)) := Lib.hid (by rw [← hwd]; exact HIn5.out)
    have HOd : Hid (OutH wd M (.slice (some ⟨g, 0, none⟩) n cap) l2) := Lib.hid (by rw [← hwd]; exact HO5.out)
    have HDZ : Hid (w5.heap.size = wd.heap.size) := Lib.hid (by rw [← hwd]; rfl)
    clear hwd
    refine anyR_take0 0 _ (nth0) rfl (by kernel_rfl) (by kernel_rfl) (by kernel_rfl) (l' := #[true, false, false, false, false, false, false, false, false, false, false, false, false, false, false]) rfl rfl ?_; intro K hK; go_big_quiet_op; go_big_quiet_on
    refine anyR_take0 1 _ (nthS (nth0)) rfl (by kernel_rfl) (by kernel_rfl) (by kernel_rfl) (l' := #[true, true, false, false, false, false, false, false, false, false, false, false, false, false, false]) rfl rfl ?_; intro K hK; go_big_quiet_op; go_big_quiet_on
    refine anyR_take0 2 _ (nthS (nthS (nth0))) rfl (by kernel_rfl) (by kernel_rfl) (by kernel_rfl) (l' := #[true, true, true, false, false, false, false, false, false, false, false, false, false, false, false]) rfl rfl ?_; intro K hK; go_big_quiet_op; go_big_quiet_on
    refine anyR_take0 3 _ (nthS (nthS (nthS (nth0)))) rfl (by kernel_rfl) (by kernel_rfl) (by kernel_rfl) (l' := #[true, true, true, true, false, false, false, false, false, false, false, false, false, false, false]) rfl rfl ?_; intro K hK; go_big_quiet_op; go_big_quiet_on
    refine anyR_take0 4 _ (nthS (nthS (nthS (nthS (nth0))))) rfl (by kernel_rfl) (by kernel_rfl) (by kernel_rfl) (l' := #[true, true, true, true, true, false, false, false, false, false, false, false, false, false, false]) rfl rfl ?_; intro K hK; go_big_quiet_op; go_big_quiet_on
    refine anyR_take0 5 _ (nthS (nthS (nthS (nthS (nthS (nth0)))))) rfl (by kernel_rfl) (by kernel_rfl) (by kernel_rfl) (l' := #[true, true, true, true, true, true, false, false, false, false, false, false, false, false, false]) rfl rfl ?_; intro K hK; go_big_quiet_op; go_big_quiet_on
    refine anyR_take 6 _ (nthS (nthS (nthS (nthS (nthS (nthS (nth0))))))) rfl (by kernel_rfl) (by kernel_rfl) (by kernel_rfl) (by kernel_rfl) (l' := #[true, true, true, true, true, true, true, false, false, false, false, false, false, false, false]) rfl rfl ?_; intro K hK; go_big_quiet_op; go_big_quiet_on
    refine anyR_take0 7 _ (nthS (nthS (nthS (nthS (nthS (nthS (nthS (nth0)))))))) rfl (by kernel_rfl) (by kernel_rfl) (by kernel_rfl) (l' := #[true, true, true, true, true, true, true, true, false, false, false, false, false, false, false]) rfl rfl ?_; intro K hK; go_big_quiet_op; go_big_quiet_on
    refine anyR_take0 8 _ (nthS (nthS (nthS (nthS (nthS (nthS (nthS (nthS (nth0))))))))) rfl (by kernel_rfl) (by kernel_rfl) (by kernel_rfl) (l' := #[true, true, true, true, true, true, true, true, true, false, false, false, false, false, false]) rfl rfl ?_; intro K hK; go_big_quiet_op; go_big_quiet_on
    refine anyR_one 9 _ (nthS (nthS (nthS (nthS (nthS (nthS (nthS (nthS (nthS (nth0)))))))))) (by kernel_rfl) (l' := #[true, true, true, true, true, true, true, true, true, true, false, false, false, false, false]) rfl ?_
    have cC := bCd.row
    unfold Row at cC
    go_wp2_with fail
    refine OneR_mk (Below.refl _ _) ?_
    refine anyR_one 10 _ (nthS (nthS (nthS (nthS (nthS (nthS (nthS (nthS (nthS (nthS (nth0))))))))))) (by kernel_rfl) (l' := #[true, true, true, true, true, true, true, true, true, true, true, false, false, false, false]) rfl ?_
    clear cC
    go_wp2_with fail
    generalize hW6 : World.alloc _ _ = W6
    have hb6 : Below wd.heap.size wd W6 := by rw [← hW6]; exact (Below.refl _ _).alloc (Nat.le_refl _) _
    have hx6 : Blk W6 wd.heap.size 3 [.int .i64 xt] := by rw [← hW6]; exact Blk.new2 _ [.int .i64 xt] rfl
    have HIn6 := Lib.hid (own_below HInd.out hb6 (Nat.le_refl _))
    have HO6 := Lib.hid (HOd.out.below hb6 (Nat.le_refl _))
    have hB6 : Below M W1 W6 := hBd.trans (hb6.mono (HW.out _ hBd).2.1)
    have hnew := own_new HInd.out (Nat.le_refl _)
    clear hW6
    refine OneR_mk (hb6.mono (Nat.le_of_eq HDZ.out)) ?_
    refine anyR_one 11 _ (nthS (nthS (nthS (nthS (nthS (nthS (nthS (nthS (nthS (nthS (nthS (nth0)))))))))))) (by kernel_rfl) (l' := #[true, true, true, true, true, true, true, true, true, true, true, true, false, false, false]) rfl ?_
    have HIns := Lib.hid (insertI_any h.ak q M wd.heap.size (.slice A2 q c2) xt W6 (by have := HIn6.out; rw [HQ.out] at this ⊢; exact this) (by have := HQ.out; omega) hx6 (by have := HQ.out; omega) (HW.out _ hB6).2.1 hnew)
    go_wp2_with fail
    refine HIns.out.mono ?_
    rintro e w7 ⟨v7, rfl, ho7, hg7⟩
    rw [← HIx2.out] at ho7
    have ho7 : w7.ownsRow M 3 1 v7 (insI h.ak xt).length (flatI (insI h.ak xt)) := by rw [insI_len]; exact ho7
    obtain ⟨A7, c7, hv7⟩ := own_form2 ho7
    subst hv7
    have hb7 : Below M W6 w7 := (Below.refl _ _).grown hg7 (HW.out _ hB6).2.1 (by intro k hk; exact (HIn6.out.lt k hk).1)
    have hB7 : Below M W1 w7 := hB6.trans hb7
    have ho7r : w7.ownsRow M 45 3 (.slice (some ⟨g, 0, none⟩) n cap) l2.length (l2.flatMap Ho.row) := HO6.out.1.kept hg7 (.inr (by intro e; exact hne e.symm))
    have HOth : Hid (∀ j a, l2[j]? = some a → j ≠ k → OwnI w7 M a) := Lib.hid (fun j a hj hjk => ⟨(HO6.out.2 a (List.mem_of_getElem? hj)).1.kept hg7 (by
      cases hbk : a.blk with
      | none => exact .inl hbk
      | some g' =>
        right; intro e
        have e2 := apt_ne HApt.out hj HK2.out hjk g' hbk
        refine e2 (Eq.trans ?_ (Eq.trans e.symm hbk))
        show (Value.slice A2 h.ak.length c2).ownBlock = _
        rw [HQ.out]), (HO6.out.2 a (List.mem_of_getElem? hj)).2⟩)
    have hne7 : (Value.slice A7 (insI h.ak xt).length c7).ownBlock ≠ some g := by
      rcases own_apart ho7 ho7r (by decide) with h' | h'
      · rw [h']; simp
      · exact h'
    obtain ⟨q7, hq7⟩ : ∃ q7, q7 = (insI h.ak xt).length := ⟨_, rfl⟩
    have HQ7 := Lib.hid hq7
    rw [← hq7] at ho7 hne7 ⊢
    clear hq7 HIns
    go_wp2_with fail
    refine OneR_rough (by kernel_rfl) (hb7.mono (Nat.zero_le _)) ?_
    refine anyR_take0 12 _ (nthS (nthS (nthS (nthS (nthS (nthS (nthS (nthS (nthS (nthS (nthS (nthS (nth0))))))))))))) rfl (by kernel_rfl) (by kernel_rfl) (by kernel_rfl) (l' := #[true, true, true, true, true, true, true, true, true, true, true, true, true, false, false]) rfl rfl ?_; intro K hK; go_big_quiet_op; go_big_quiet_on
    refine anyR_take0 13 _ (nthS (nthS (nthS (nthS (nthS (nthS (nthS (nthS (nthS (nthS (nthS (nthS (nthS (nth0)))))))))))))) rfl (by kernel_rfl) (by kernel_rfl) (by kernel_rfl) (l' := #[true, true, true, true, true, true, true, true, true, true, true, true, true, true, false]) rfl rfl ?_; intro K hK; go_big_quiet_op; go_big_quiet_on
    refine anyR_one 14 _ (nthS (nthS (nthS (nthS (nthS (nthS (nthS (nthS (nthS (nthS (nthS (nthS (nthS (nthS (nth0))))))))))))))) (by kernel_rfl) (l' := #[true, true, true, true, true, true, true, true, true, true, true, true, true, true, true]) rfl ?_
    have ho7n := ho7r
    rw [HL2.out] at ho7n
    have c7g := ho7n.cellAt (k * 3 + 2) (by omega)
    have f7g := ho7n.frozenAt (k * 3 + 2)
    have hst := (ho7n.stored (k * 3 + 2) (.slice A7 q7 c7)).1
    rw [flat_set Ho.row_len l2 k 2 ⟨h.fl, h.fr, h.ak, A2, c2⟩ ⟨h.fl, h.fr, insI h.ak xt, A7, c7⟩ (.slice A7 q7 c7) HK2.out (by omega) (by rw [HQ7.out]; rfl)] at hst
    have HF : Hid (OutH (w7.setCell ⟨g, k * 3 + 2, none⟩ (.slice A7 q7 c7)) M (.slice (some ⟨g, 0, none⟩) n cap) (l2.set k ⟨h.fl, h.fr, insI h.ak xt, A7, c7⟩)) := Lib.hid ⟨by rw [List.length_set, HL2.out]; exact hst, fun h' hh => by
      rcases List.getElem?_of_mem hh with ⟨j, hj⟩
      by_cases hjk : k = j
      · subst hjk
        rw [List.getElem?_set_self (by rw [HL2.out]; exact hkl)] at hj
        injection hj with hj
        subst hj
        exact ⟨by have := own_setCell ho7 (g := g) (i := k * 3 + 2) (u := .slice A7 q7 c7) hne7; dsimp only; rw [← HQ7.out]; exact this, by dsimp only; rw [insI_len]; have := HQ.out; omega⟩
      · rw [List.getElem?_set_ne hjk] at hj
        have ho := HOth.out j h' hj (fun e => hjk e.symm)
        exact ⟨own_setCell ho.1 (by
          rcases own_apart ho.1 ho7r (by decide) with h9 | h9
          · rw [h9]; simp
          · exact h9), ho.2⟩⟩
    have HMF : Hid ((l2.set k ⟨h.fl, h.fr, insI h.ak xt, A7, c7⟩).map Ho.d = (l.map Ho.d).set k ⟨h.fl, h.fr, insI h.ak xt⟩) := Lib.hid (by rw [← set_map Ho.d, HM2.out]; rfl)
    have HBW : Hid (Below w.heap.size w (w7.setCell ⟨g, k * 3 + 2, none⟩ (.slice A7 q7 c7))) := Lib.hid ((HW.out _ hB7).1.setCell (p := ⟨g, k * 3 + 2, none⟩) (by dsimp only; have := HN.out; omega) _)
    rw [flat_get Ho.row 3 Ho.row_len l2 k 2 _ HK2.out (by omega)] at c7g
    have c7g : w7.cell? ⟨g, k * 3 + 2, none⟩ = some (.slice A2 q c2) := by rw [HQ.out]; exact c7g
    clear hst ho7n ho7r ho7 hne7 hg7
    go_wp2_with fail
    generalize hW8 : World.setCell _ _ _ = W8
    have hbe : Below 0 w7 W8 := by rw [← hW8]; exact (Below.refl 0 w7).setCell (p := ⟨g, k * 3 + 2, none⟩) (Nat.zero_le _) _
    have HF8 : Hid (OutH W8 M (.slice (some ⟨g, 0, none⟩) n cap) (l2.set k ⟨h.fl, h.fr, insI h.ak xt, A7, c7⟩)) := Lib.hid (by rw [← hW8]; exact HF.out)
    have HB8 : Hid (Below w.heap.size w W8) := Lib.hid (by rw [← hW8]; exact HBW.out)
    clear hW8 HF HBW c7g f7g
    refine OneR_rough (by kernel_rfl) (hbe) ?_
    refine anyR_end (by kernel_rfl) ?_
    go_wp2_with fail
    go_ret
    exact ⟨HB8.out, _, _, rfl, HF8.out.base (by have := HN.out; omega), HMF.out⟩
  · have hx1' : idxP (fun n => decide (xt < n)) h.ak 0 = (i : Int) := by rw [hx1]; omega
    rw [hx1'] at hix
    have HIx := Lib.hid (show Calls Try.prog 53 #[.slice A2 q c2, .func (.func 54) #[] #[.pointer (some ⟨N, 0, none⟩)]] w4 fun e w' => e = .returned (.int .i64 (i : Int)) ∧ Below w4.heap.size w4 w' from hix)
    have HIx2 : Hid (insI h.ak xt = h.ak.take i ++ xt :: h.ak.drop i) := Lib.hid hx2
    have hiq : i ≤ q := by rw [HQ.out]; exact Nat.le_of_lt hx3
    have hi0 : decide ((i : Int) < 0) = false := decide_eq_false (by omega)
    clear hix hx1 hx1' hx2 hx3
    go_wp2_with fail
    refine HIx.out.mono ?_
    rintro e w5 ⟨rfl, hb5⟩
    have hB5 : Below M W1 w5 := hB4.trans (hb5.mono (HW.out _ hB4).2.1)
    have c5 : w5.cell? ⟨g, k * 3 + 2, none⟩ = some (.slice A2 q c2) := (hb5.cell (p := ⟨g, k * 3 + 2, none⟩) hg4).trans c4
    have hg5 : g < w5.heap.size := Nat.lt_of_lt_of_le hg4 hb5.size
    have HO5 := Lib.hid (HO4.out.below hb5 (Nat.le_refl _))
    have HIn5 := Lib.hid (own_below HIn4.out hb5 (Nat.le_refl _))
    obtain ⟨hB5w, hM5, bC5⟩ := HW.out _ hB5
    clear HIx HO4 HIn4 c4 hb5
    go_wp2_with fail
    have hB5d : Below M W1 w5.drew := hB5.drew
    have xC : ∀ (x : ExtW w5.heap.size w5.drew) (i : Nat), x.val.cell? ⟨N, i, none⟩ = _ := (Row.drew bC5.row).ext bC5.lt
    have xg : ∀ (x : ExtW w5.heap.size w5.drew), x.val.cell? ⟨g, k * 3 + 2, none⟩ = some (.slice A2 q c2) := fun x => (x.cell _ hg5).trans c5
    refine wp_region_rough (w5.heap.size) 15 [11, 14] #[false, false, false, false, false, false, false, false, false, false, false, false, false, false, false] (by kernel_rfl) rfl rfl ?_
    generalize hwd : w5.drew = wd at xC xg ⊢
    have hBd : Below M W1 wd := by rw [← hwd]; exact hB5d
    have bCd : Blk wd N 25 [.int .i64 xs, .int .i64 xo, .int .i64 xf, .int .i64 xt, .int .i64 xl] := by rw [← hwd]; exact bC5.drew
    have HInd : Hid (wd.ownsRow M 3 1 (.slice A2 q c2) q (flatI h.ak)) := Lib.hid (by rw [← hwd]; exact HIn5.out)
    have HOd : Hid (OutH wd M (.slice (some ⟨g, 0, none⟩) n cap) l2) := Lib.hid (by rw [← hwd]; exact HO5.out)
    have HDZ : Hid (w5.heap.size = wd.heap.size) := Lib.hid (by rw [← hwd]; rfl)
    clear hwd
    refine anyR_take0 0 _ (nth0) rfl (by kernel_rfl) (by kernel_rfl) (by kernel_rfl) (l' := #[true, false, false, false, false, false, false, false, false, false, false, false, false, false, false]) rfl rfl ?_; intro K hK; go_big_quiet_op; go_big_quiet_on
    refine anyR_take0 1 _ (nthS (nth0)) rfl (by kernel_rfl) (by kernel_rfl) (by kernel_rfl) (l' := #[true, true, false, false, false, false, false, false, false, false, false, false, false, false, false]) rfl rfl ?_; intro K hK; go_big_quiet_op; go_big_quiet_on
    refine anyR_take0 2 _ (nthS (nthS (nth0))) rfl (by kernel_rfl) (by kernel_rfl) (by kernel_rfl) (l' := #[true, true, true, false, false, false, false, false, false, false, false, false, false, false, false]) rfl rfl ?_; intro K hK; go_big_quiet_op; go_big_quiet_on
    refine anyR_take0 3 _ (nthS (nthS (nthS (nth0)))) rfl (by kernel_rfl) (by kernel_rfl) (by kernel_rfl) (l' := #[true, true, true, true, false, false, false, false, false, false, false, false, false, false, false]) rfl rfl ?_; intro K hK; go_big_quiet_op; go_big_quiet_on
    refine anyR_take0 4 _ (nthS (nthS (nthS (nthS (nth0))))) rfl (by kernel_rfl) (by kernel_rfl) (by kernel_rfl) (l' := #[true, true, true, true, true, false, false, false, false, false, false, false, false, false, false]) rfl rfl ?_; intro K hK; go_big_quiet_op; go_big_quiet_on
    refine anyR_take0 5 _ (nthS (nthS (nthS (nthS (nthS (nth0)))))) rfl (by kernel_rfl) (by kernel_rfl) (by kernel_rfl) (l' := #[true, true, true, true, true, true, false, false, false, false, false, false, false, false, false]) rfl rfl ?_; intro K hK; go_big_quiet_op; go_big_quiet_on
    refine anyR_take 6 _ (nthS (nthS (nthS (nthS (nthS (nthS (nth0))))))) rfl (by kernel_rfl) (by kernel_rfl) (by kernel_rfl) (by kernel_rfl) (l' := #[true, true, true, true, true, true, true, false, false, false, false, false, false, false, false]) rfl rfl ?_; intro K hK; go_big_quiet_op; go_big_quiet_on
    refine anyR_take0 7 _ (nthS (nthS (nthS (nthS (nthS (nthS (nthS (nth0)))))))) rfl (by kernel_rfl) (by kernel_rfl) (by kernel_rfl) (l' := #[true, true, true, true, true, true, true, true, false, false, false, false, false, false, false]) rfl rfl ?_; intro K hK; go_big_quiet_op; go_big_quiet_on
    refine anyR_take0 8 _ (nthS (nthS (nthS (nthS (nthS (nthS (nthS (nthS (nth0))))))))) rfl (by kernel_rfl) (by kernel_rfl) (by kernel_rfl) (l' := #[true, true, true, true, true, true, true, true, true, false, false, false, false, false, false]) rfl rfl ?_; intro K hK; go_big_quiet_op; go_big_quiet_on
    refine anyR_one 9 _ (nthS (nthS (nthS (nthS (nthS (nthS (nthS (nthS (nthS (nth0)))))))))) (by kernel_rfl) (l' := #[true, true, true, true, true, true, true, true, true, true, false, false, false, false, false]) rfl ?_
    have cC := bCd.row
    unfold Row at cC
    go_wp2_with fail
    refine OneR_mk (Below.refl _ _) ?_
    refine anyR_one 10 _ (nthS (nthS (nthS (nthS (nthS (nthS (nthS (nthS (nthS (nthS (nth0))))))))))) (by kernel_rfl) (l' := #[true, true, true, true, true, true, true, true, true, true, true, false, false, false, false]) rfl ?_
    clear cC
    go_wp2_with fail
    generalize hW6 : World.alloc _ _ = W6
    have hb6 : Below wd.heap.size wd W6 := by rw [← hW6]; exact (Below.refl _ _).alloc (Nat.le_refl _) _
    have hx6 : Blk W6 wd.heap.size 3 [.int .i64 xt] := by rw [← hW6]; exact Blk.new2 _ [.int .i64 xt] rfl
    have HIn6 := Lib.hid (own_below HInd.out hb6 (Nat.le_refl _))
    have HO6 := Lib.hid (HOd.out.below hb6 (Nat.le_refl _))
    have hB6 : Below M W1 W6 := hBd.trans (hb6.mono (HW.out _ hBd).2.1)
    have hnew := own_new HInd.out (Nat.le_refl _)
    clear hW6
    refine OneR_mk (hb6.mono (Nat.le_of_eq HDZ.out)) ?_
    refine anyR_one 11 _ (nthS (nthS (nthS (nthS (nthS (nthS (nthS (nthS (nthS (nthS (nthS (nth0)))))))))))) (by kernel_rfl) (l' := #[true, true, true, true, true, true, true, true, true, true, true, true, false, false, false]) rfl ?_
    have HIns := Lib.hid (insertI_any h.ak i M wd.heap.size (.slice A2 q c2) xt W6 (by have := HIn6.out; rw [HQ.out] at this ⊢; exact this) (by have := HQ.out; omega) hx6 (by have := HQ.out; omega) (HW.out _ hB6).2.1 hnew)
    go_wp2_with fail
    refine HIns.out.mono ?_
    rintro e w7 ⟨v7, rfl, ho7, hg7⟩
    rw [← HIx2.out] at ho7
    have ho7 : w7.ownsRow M 3 1 v7 (insI h.ak xt).length (flatI (insI h.ak xt)) := by rw [insI_len]; exact ho7
    obtain ⟨A7, c7, hv7⟩ := own_form2 ho7
    subst hv7
    have hb7 : Below M W6 w7 := (Below.refl _ _).grown hg7 (HW.out _ hB6).2.1 (by intro k hk; exact (HIn6.out.lt k hk).1)
    have hB7 : Below M W1 w7 := hB6.trans hb7
    have ho7r : w7.ownsRow M 45 3 (.slice (some ⟨g, 0, none⟩) n cap) l2.length (l2.flatMap Ho.row) := HO6.out.1.kept hg7 (.inr (by intro e; exact hne e.symm))
    have HOth : Hid (∀ j a, l2[j]? = some a → j ≠ k → OwnI w7 M a) := Lib.hid (fun j a hj hjk => ⟨(HO6.out.2 a (List.mem_of_getElem? hj)).1.kept hg7 (by
      cases hbk : a.blk with
      | none => exact .inl hbk
      | some g' =>
        right; intro e
        have e2 := apt_ne HApt.out hj HK2.out hjk g' hbk
        refine e2 (Eq.trans ?_ (Eq.trans e.symm hbk))
        show (Value.slice A2 h.ak.length c2).ownBlock = _
        rw [HQ.out]), (HO6.out.2 a (List.mem_of_getElem? hj)).2⟩)
    have hne7 : (Value.slice A7 (insI h.ak xt).length c7).ownBlock ≠ some g := by
      rcases own_apart ho7 ho7r (by decide) with h' | h'
      · rw [h']; simp
      · exact h'
    obtain ⟨q7, hq7⟩ : ∃ q7, q7 = (insI h.ak xt).length := ⟨_, rfl⟩
    have HQ7 := Lib.hid hq7
    rw [← hq7] at ho7 hne7 ⊢
    clear hq7 HIns
    go_wp2_with fail
    refine OneR_rough (by kernel_rfl) (hb7.mono (Nat.zero_le _)) ?_
    refine anyR_take0 12 _ (nthS (nthS (nthS (nthS (nthS (nthS (nthS (nthS (nthS (nthS (nthS (nthS (nth0))))))))))))) rfl (by kernel_rfl) (by kernel_rfl) (by kernel_rfl) (l' := #[true, true, true, true, true, true, true, true, true, true, true, true, true, false, false]) rfl rfl ?_; intro K hK; go_big_quiet_op; go_big_quiet_on
    refine anyR_take0 13 _ (nthS (nthS (nthS (nthS (nthS (nthS (nthS (nthS (nthS (nthS (nthS (nthS (nthS (nth0)))))))))))))) rfl (by kernel_rfl) (by kernel_rfl) (by kernel_rfl) (l' := #[true, true, true, true, true, true, true, true, true, true, true, true, true, true, false]) rfl rfl ?_; intro K hK; go_big_quiet_op; go_big_quiet_on
    refine anyR_one 14 _ (nthS (nthS (nthS (nthS (nthS (nthS (nthS (nthS (nthS (nthS (nthS (nthS (nthS (nthS (nth0))))))))))))))) (by kernel_rfl) (l' := #[true, true, true, true, true, true, true, true, true, true, true, true, true, true, true]) rfl ?_
    have ho7n := ho7r
    rw [HL2.out] at ho7n
    have c7g := ho7n.cellAt (k * 3 + 2) (by omega)
    have f7g := ho7n.frozenAt (k * 3 + 2)
    have hst := (ho7n.stored (k * 3 + 2) (.slice A7 q7 c7)).1
    rw [flat_set Ho.row_len l2 k 2 ⟨h.fl, h.fr, h.ak, A2, c2⟩ ⟨h.fl, h.fr, insI h.ak xt, A7, c7⟩ (.slice A7 q7 c7) HK2.out (by omega) (by rw [HQ7.out]; rfl)] at hst
    have HF : Hid (OutH (w7.setCell ⟨g, k * 3 + 2, none⟩ (.slice A7 q7 c7)) M (.slice (some ⟨g, 0, none⟩) n cap) (l2.set k ⟨h.fl, h.fr, insI h.ak xt, A7, c7⟩)) := Lib.hid ⟨by rw [List.length_set, HL2.out]; exact hst, fun h' hh => by
      rcases List.getElem?_of_mem hh with ⟨j, hj⟩
      by_cases hjk : k = j
      · subst hjk
        rw [List.getElem?_set_self (by rw [HL2.out]; exact hkl)] at hj
        injection hj with hj
        subst hj
        exact ⟨by have := own_setCell ho7 (g := g) (i := k * 3 + 2) (u := .slice A7 q7 c7) hne7; dsimp only; rw [← HQ7.out]; exact this, by dsimp only; rw [insI_len]; have := HQ.out; omega⟩
      · rw [List.getElem?_set_ne hjk] at hj
        have ho := HOth.out j h' hj (fun e => hjk e.symm)
        exact ⟨own_setCell ho.1 (by
          rcases own_apart ho.1 ho7r (by decide) with h9 | h9
          · rw [h9]; simp
          · exact h9), ho.2⟩⟩
    have HMF : Hid ((l2.set k ⟨h.fl, h.fr, insI h.ak xt, A7, c7⟩).map Ho.d = (l.map Ho.d).set k ⟨h.fl, h.fr, insI h.ak xt⟩) := Lib.hid (by rw [← set_map Ho.d, HM2.out]; rfl)
    have HBW : Hid (Below w.heap.size w (w7.setCell ⟨g, k * 3 + 2, none⟩ (.slice A7 q7 c7))) := Lib.hid ((HW.out _ hB7).1.setCell (p := ⟨g, k * 3 + 2, none⟩) (by dsimp only; have := HN.out; omega) _)
    rw [flat_get Ho.row 3 Ho.row_len l2 k 2 _ HK2.out (by omega)] at c7g
    have c7g : w7.cell? ⟨g, k * 3 + 2, none⟩ = some (.slice A2 q c2) := by rw [HQ.out]; exact c7g
    clear hst ho7n ho7r ho7 hne7 hg7
    go_wp2_with fail
    generalize hW8 : World.setCell _ _ _ = W8
    have hbe : Below 0 w7 W8 := by rw [← hW8]; exact (Below.refl 0 w7).setCell (p := ⟨g, k * 3 + 2, none⟩) (Nat.zero_le _) _
    have HF8 : Hid (OutH W8 M (.slice (some ⟨g, 0, none⟩) n cap) (l2.set k ⟨h.fl, h.fr, insI h.ak xt, A7, c7⟩)) := Lib.hid (by rw [← hW8]; exact HF.out)
    have HB8 : Hid (Below w.heap.size w W8) := Lib.hid (by rw [← hW8]; exact HBW.out)
    clear hW8 HF HBW c7g f7g
    refine OneR_rough (by kernel_rfl) (hbe) ?_
    refine anyR_end (by kernel_rfl) ?_
    go_wp2_with fail
    go_ret
    exact ⟨HB8.out, _, _, rfl, HF8.out.base (by have := HN.out; omega), HMF.out⟩
end Go.Proofs.Ytepamedbbbfjkaa
