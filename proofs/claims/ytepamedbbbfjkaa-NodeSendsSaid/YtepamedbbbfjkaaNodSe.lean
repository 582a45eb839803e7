/- Walks for the example of the node layer: Sent with one holding; Insert of package slices at numbers. -/
import Derived.Test.YtepamedbbbfjkaaNodZ
namespace Go.Proofs.Ytepamedbbbfjkaa
open Go.RowKit
open Nd
theorem oneI (x : Int) : ∀ u, u ∈ irow x → u.oneCell' = true := fun u hu => by
  simp only [irow, List.mem_cons, List.not_mem_nil, or_false] at hu
  subst hu; rfl

set_option maxRecDepth 100000 in
set_option maxHeartbeats 1000000 in
/-- At the end. -/
theorem insertI_end (l : List Int) (base bx : Nat) (v : Value) (x : Int) (w : World) (ho : w.ownsRow base 3 1 v l.length (l.flatMap irow)) (hx : Blk w bx 3 (irow x)) (hl : l.length ≤ 1000000) (hB : base ≤ w.heap.size) :
    Calls Try.prog 55 #[v, .int .i64 (l.length : Nat), .slice (some ⟨bx, 0, none⟩) 1 1] w fun e w' => ∃ v', e = .returned v' ∧ w'.ownsRow base 3 1 v' (l.length + 1) (l.flatMap irow ++ irow x) ∧ w.grownBy w' v.ownBlock := by
  obtain ⟨i0, hi, hz0, hz1, hz2⟩ := info_parts Try.infoI
  have hnews : Hid (∀ j u, (irow x)[j]? = some u → w.cell? ((⟨bx, 0, none⟩ : Addr).add j) = some u) := Lib.hid (fun j u hu => by rw [add_off]; exact (hx.row j).trans hu)
  have hlen : Hid ((irow x).length = 1 * 1) := Lib.hid (by rw [irow_len])
  have hone : Hid (∀ u ∈ irow x, u.oneCell' = true) := Lib.hid (oneI x)
  have HO := Lib.hid ho
  rcases ho.2 with ⟨hv, h0⟩ | ⟨g, cap, cur, hv, hgb, hg, hnc, hcm, hcs, htake⟩
  · have hn0 : l = [] := List.eq_nil_of_length_eq_zero h0
    subst hn0 hv
    simp only [List.flatMap_nil, List.length_nil] at HO ⊢
    clear ho h0
    go_enter Try.func55, Try.ntmps55
    go_wp2_with (at_builtin; refine wpList_append_own_at _ rfl (.tmp 23) (.tmp 24) 43 rfl base 3 i0 (.int .i64 0) 1 8 Try.underlying43 hi hz0 hz1 hz2 rfl (by decide) (.slice none 0 0) 0 [] rfl HO.out ⟨bx, 0, none⟩ 1 1 (irow x) rfl hlen.out hnews.out hone.out ?e2 ?e3 ?e4 ?_)
    case e2 => unfold maxLen; omega
    case e3 => omega
    case e4 => exact hB
    intro v3 w3 ho3 hg3 hnil3 hat3
    clear hnil3 hat3
    go_wp2_with fail
    go_ret
    exact ⟨v3, rfl, by simpa using ho3, hg3⟩
  · subst hv
    obtain ⟨n, hn⟩ : ∃ n, n = l.length := ⟨_, rfl⟩
    rw [← hn] at HO hl hnc ⊢
    have hcm' : cap ≤ 9223372036854775807 := by unfold maxLen at hcm; omega
    clear ho hg hcs htake hn hcm
    by_cases hcn : cap = n
    · subst hcn
      go_enter Try.func55, Try.ntmps55
      go_wp2_with (at_builtin; refine wpList_append_own_at _ rfl (.tmp 23) (.tmp 24) 43 rfl base 3 i0 (.int .i64 0) 1 8 Try.underlying43 hi hz0 hz1 hz2 rfl (by decide) (.slice (some ⟨g, 0, none⟩) cap cap) cap (l.flatMap irow) rfl HO.out ⟨bx, 0, none⟩ 1 1 (irow x) rfl hlen.out hnews.out hone.out ?e2 ?e3 ?e4 ?_)
      case e2 => unfold maxLen; omega
      case e3 => omega
      case e4 => exact hB
      intro v3 w3 ho3 hg3 hnil3 hat3
      clear hnil3 hat3
      go_wp2_with fail
      go_ret
      exact ⟨v3, rfl, by simpa using ho3, hg3⟩
    · skip
      go_enter Try.func55, Try.ntmps55
      go_wp2_with (at_builtin; refine wpList_append_own_at _ rfl (.tmp 23) (.tmp 24) 43 rfl base 3 i0 (.int .i64 0) 1 8 Try.underlying43 hi hz0 hz1 hz2 rfl (by decide) (.slice (some ⟨g, 0, none⟩) n cap) n (l.flatMap irow) rfl HO.out ⟨bx, 0, none⟩ 1 1 (irow x) rfl hlen.out hnews.out hone.out ?e2 ?e3 ?e4 ?_)
      case e2 => unfold maxLen; omega
      case e3 => omega
      case e4 => exact hB
      intro v3 w3 ho3 hg3 hnil3 hat3
      clear hnil3 hat3
      go_wp2_with fail
      go_ret
      exact ⟨v3, rfl, by simpa using ho3, hg3⟩


set_option maxRecDepth 100000 in
set_option maxHeartbeats 1000000 in
theorem indexI_any (p : Int → Bool) (g : FuncId) (cb : Array Value) (l : List Int) (A : Option Addr) (c : Nat) (w : World) (eg : ∀ args w, (callFunc g args).run Try.prog w = .ok (.enter g args) w)
    (hA : Lies w w.heap.size 1 A (l.map irow)) (hl : l.length ≤ 1000000) (hp : ∀ W, Below w.heap.size w W → ∀ a, a ∈ l → Calls Try.prog g (#[.int .i64 a] ++ cb) W fun e w' => e = .returned (.bool (p a)) ∧ Below W.heap.size W w') :
    Calls Try.prog 53 #[.slice A l.length c, .func (.func g) #[] cb] w fun e w' => e = .returned (.int .i64 (idxP p l 0)) ∧ Below w.heap.size w w' := by
  obtain ⟨n, hn⟩ : ∃ n, n = l.length := ⟨_, rfl⟩
  rw [← hn] at hl ⊢
  have HN := Lib.hid hn
  obtain ⟨T, hT⟩ : ∃ T, T = idxP p l 0 := ⟨_, rfl⟩
  rw [← hT]
  have HT := Lib.hid hT
  have HP := Lib.hid hp
  clear hn hT hp
  go_enter Try.func53, Try.ntmps53
  go_wp2_with fail
  go_loopw [8] (fun i wr => ∃ (k : Nat), k ≤ n ∧ i = .int .i64 k ∧ Below w.heap.size w wr ∧ Hid (T = idxP p (l.drop k) k)) (fun i _ => n - (intOf i).toNat)
  case atStart => exact ⟨0, Nat.zero_le _, rfl, Below.refl _ _, Lib.hid (by rw [HT.out]; rfl)⟩
  case round =>
    obtain ⟨k, hk, rfl, hb, hst⟩ := hrel
    by_cases hlt : k < n
    · obtain ⟨a, ha⟩ := get_of_lt (l := l) (k := k) (by rw [← HN.out]; exact hlt)
      obtain ⟨b, off, rfl, hbB, hcs⟩ := (Lies.below hA hb).at_ ha
      have c0 := hcs k a ha 0 _ rfl
      simp only [Nat.add_zero, Nat.mul_one] at c0
      have hst' : Hid (T = if p a = true then (k : Int) else idxP p (l.drop (k + 1)) ((k : Int) + 1)) := Lib.hid (by rw [hst.out, drop_of_get ha]; rfl)
      have hcall := HP.out wr hb a (List.mem_of_getElem? ha)
      clear hcs ha hst
      cases hq : p a with
      | true =>
        rw [hq] at hcall
        have hf := Lib.hid (show T = (k : Int) by rw [hst'.out, if_pos hq])
        clear hst' hq
        go_wp2_with (go_at_fn g; refine hcall.mono ?_; rintro e w2 ⟨rfl, hb2⟩)
        go_ret
        exact ⟨ret_int (by rw [hf.out]), hb.trans (hb2.mono hb.size)⟩
      | false =>
        rw [hq] at hcall
        have hf := Lib.hid (show T = idxP p (l.drop (k + 1)) ((k + 1 : Nat) : Int) by rw [hst'.out, if_neg (by rw [hq]; decide)]; rfl)
        clear hst' hq
        go_wp2_with (go_at_fn g; refine hcall.mono ?_; rintro e w2 ⟨rfl, hb2⟩)
        go_roundw
        case rel => exact ⟨k + 1, by omega, by go_num, hb.trans (hb2.mono hb.size), hf⟩
        case measure => simp [intOf]; omega
    · have hf : Hid (T = -1) := Lib.hid (by rw [hst.out, List.drop_of_length_le (by rw [← HN.out]; omega)]; rfl)
      go_wp2_with fail
      go_ret
      exact ⟨ret_int (by rw [hf.out]), hb⟩

theorem insI0 (base bx : Nat) (v : Value) (w : World) (ho : w.ownsRow base 3 1 v 0 []) (hx : Blk w bx 3 [.int .i64 0]) (hB : base ≤ w.heap.size) :
    Calls Try.prog 55 #[v, .int .i64 0, .slice (some ⟨bx, 0, none⟩) 1 1] w fun e w' => ∃ v', e = .returned v' ∧ w'.ownsRow base 3 1 v' 1 [.int .i64 0] ∧ w.grownBy w' v.ownBlock :=
  insertI_end [] base bx v 0 w ho hx (by simp) hB

set_option maxRecDepth 100000 in
set_option maxHeartbeats 1000000 in
theorem sentS (hq : Ho) (D : Option Addr) (cd : Nat) (w : World) (hD : LiesH w w.heap.size D [hq]) (he : hq.fl = 7) (hak : hq.ak = []) :
    Calls Try.prog 25 #[.slice D 1 cd, .agg #[.int .i64 1, .int .i64 0, .int .i64 1, .int .i64 0, .int .i64 7], .bool true] w fun e w' => Below w.heap.size w w' ∧ ∃ v l', e = .returned v ∧ OutH w' w.heap.size v l' ∧ l'.map Ho.d = [⟨7, hq.fr, [0]⟩] := by
  obtain ⟨N, hN⟩ : ∃ N, N = w.heap.size := ⟨_, rfl⟩
  obtain ⟨W1, hW1⟩ : ∃ W1, W1 = w.alloc (.cells #[.int .i64 1, .int .i64 0, .int .i64 1, .int .i64 0, .int .i64 7] 25) := ⟨_, rfl⟩
  have hb1 : Below N w W1 := by rw [hW1, hN]; exact (Below.refl _ _).alloc (Nat.le_refl _) _
  have bC : Blk W1 N 25 [.int .i64 1, .int .i64 0, .int .i64 1, .int .i64 0, .int .i64 7] := by rw [hW1]; exact Blk.new2 _ [.int .i64 1, .int .i64 0, .int .i64 1, .int .i64 0, .int .i64 7] hN
  obtain ⟨M, hM⟩ : ∃ M, M = W1.heap.size := ⟨_, rfl⟩
  have hNM : N < M := by rw [hM]; exact bC.lt
  have HW := Lib.hid (fun W (h' : Below M W1 W) => (show Below w.heap.size w W ∧ M ≤ W.heap.size ∧ Blk W N 25 [.int .i64 1, .int .i64 0, .int .i64 1, .int .i64 0, .int .i64 7] from ⟨by rw [← hN]; exact hb1.trans (h'.mono (by omega)), by rw [hM]; exact h'.size, bC.below h' hNM⟩))
  have HCo := Lib.hid (copied_any [hq] D cd W1 (LiesH.later hD (by rw [← hN]; exact hb1)) (by simp))
  have HW1 := Lib.hid hW1
  have HM := Lib.hid hM
  have HN := Lib.hid hN
  have HE := Lib.hid (And.intro he hak)
  clear hD he hak hb1 hW1 hM bC hN
  go_enter Try.func25, Try.ntmps25
  go_wp2_with fail
  rw [← HW1.out, ← HN.out]
  refine (show Calls Try.prog 29 #[.slice D 1 cd] W1 _ from HCo.out).mono ?_
  rintro e w2 ⟨hb2, v2, l2, rfl, ho2, hm2⟩
  rw [← HM.out] at hb2 ho2
  obtain ⟨h2, rfl⟩ : ∃ h2, l2 = [h2] := List.length_eq_one_iff.1 (by simpa using congrArg List.length hm2)
  have hd2 : h2.fl = 7 ∧ h2.fr = hq.fr ∧ h2.ak = [] := by
    simp only [List.map_cons, List.map_nil, List.cons.injEq, and_true, Ho.d, Hd.mk.injEq] at hm2
    exact ⟨hm2.1.trans HE.out.1, hm2.2.1, hm2.2.2.trans HE.out.2⟩
  obtain ⟨f2, r2, ak2, A2, c2⟩ := h2
  dsimp only at hd2
  obtain ⟨rfl, rfl, rfl⟩ := hd2
  have hin := ho2.2 _ List.mem_cons_self
  rcases ho2.1.2 with ⟨_, h0⟩ | ⟨g, cap, cur, hv, hgM, hgh, hc1, hcm, _⟩
  · cases h0
  subst hv
  have HO2 := Lib.hid ho2
  have HIn : Hid (w2.ownsRow M 3 1 (.slice A2 0 c2) 0 []) := Lib.hid hin.1
  have hg2 : g < w2.heap.size := heap_lt hgh
  have hne : (Value.slice A2 0 c2).ownBlock ≠ some g := by
    rcases own_apart hin.1 ho2.1 (by decide) with h' | h'
    · intro e; rw [show (Value.slice A2 ([] : List Int).length c2).ownBlock = (Value.slice A2 0 c2).ownBlock from rfl] at h'; rw [h'] at e; cases e
    · exact h'
  have hcell : w2.cell? ⟨g, 2, none⟩ = some (.slice A2 0 c2) := by
    have := ho2.1.cells (g := g) rfl 2 (.slice A2 0 c2) rfl
    rwa [add_off] at this
  have hcm' : cap ≤ 9223372036854775807 := by unfold maxLen at hcm; omega
  have hlies := OutH.lies ho2
  obtain ⟨A9, c9, e9, hL⟩ := hlies
  simp only [Value.slice.injEq, List.length_singleton, true_and] at e9
  have HFd := hfind_any _ 7 A9 c9 w2 hL (by simp)
  rw [findH_one _ rfl, ← e9.1, ← e9.2] at HFd
  have HFD := Lib.hid HFd
  obtain ⟨hB2, hM2, bC2⟩ := HW.out _ hb2
  have cC := bC2.row
  unfold Row at cC
  clear hm2 hin ho2 hL e9 HFd HCo hgh
  go_wp2_with fail
  refine (show Calls Try.prog 31 #[.slice (some ⟨g, 0, none⟩) 1 cap, .int .i64 7] w2 _ from HFD.out).mono ?_
  rintro e w3 ⟨rfl, hb3⟩
  have hB3 : Below M W1 w3 := hb2.trans (hb3.mono hM2)
  obtain ⟨hB3w, hM3, bC3⟩ := HW.out _ hB3
  have c3 : w3.cell? ⟨g, 2, none⟩ = some (.slice A2 0 c2) := (hb3.cell (p := ⟨g, 2, none⟩) hg2).trans hcell
  have hg3 : g < w3.heap.size := Nat.lt_of_lt_of_le hg2 hb3.size
  have HO3 := Lib.hid (HO2.out.below hb3 (Nat.le_refl _))
  have HIn3 := Lib.hid (own_below HIn.out hb3 (Nat.le_refl _))
  have xC : ∀ (x : ExtW w3.heap.size w3) (i : Nat), x.val.cell? ⟨N, i, none⟩ = _ := bC3.row.ext bC3.lt
  have xg : ∀ (x : ExtW w3.heap.size w3), x.val.cell? ⟨g, 2, none⟩ = some (.slice A2 0 c2) := fun x => (x.cell _ hg3).trans c3
  have HCt := Lib.hid (fun (x : ExtW w3.heap.size w3) => contains_any [] 0 A2 c2 x.val LiesI.nil (by simp))
  clear cC hcell HO2 HIn HFD bC2
  go_wp2_with fail
  refine wp_region_ext w3.heap.size (by kernel_rfl) (by kernel_rfl) ?_
  repeat (go_big_quiet_step ((go_at_call 24; exact Calls.ext_same (HCt.out _))))
  refine wpQuiet_nil ?_
  rintro _ ⟨x, rfl⟩
  obtain ⟨w4, hb4⟩ := x
  dsimp only
  have hB4 : Below M W1 w4 := hB3.trans (hb4.mono hM3)
  have hg4 : g < w4.heap.size := Nat.lt_of_lt_of_le hg3 hb4.size
  have c4 : w4.cell? ⟨g, 2, none⟩ = some (.slice A2 0 c2) := (hb4.cell (p := ⟨g, 2, none⟩) hg3).trans c3
  have HO4 := Lib.hid (HO3.out.below hb4 (Nat.le_refl _))
  have HIn4 := Lib.hid (own_below HIn3.out hb4 (Nat.le_refl _))
  have HIx := Lib.hid (indexI_any (fun n => decide (0 < n)) 54 #[.pointer (some ⟨N, 0, none⟩)] [] A2 c2 w4 (enters_of Try.func54 (by kernel_rfl) rfl) (Lies.nil _ _ _ _) (by simp) (fun W hW a ha => by cases ha))
  clear xC xg HCt HO3 HIn3 c3 bC3
  go_wp2_with fail
  refine (show Calls Try.prog 53 #[.slice A2 0 c2, .func (.func 54) #[] #[.pointer (some ⟨N, 0, none⟩)]] w4 (fun e w' => e = .returned (.int .i64 (-1)) ∧ Below w4.heap.size w4 w') from HIx.out).mono ?_
  rintro e w5 ⟨rfl, hb5⟩
  have hB5 : Below M W1 w5 := hB4.trans (hb5.mono (HW.out _ hB4).2.1)
  have c5 : w5.cell? ⟨g, 2, none⟩ = some (.slice A2 0 c2) := (hb5.cell (p := ⟨g, 2, none⟩) hg4).trans c4
  have hg5 : g < w5.heap.size := Nat.lt_of_lt_of_le hg4 hb5.size
  have HO5 := Lib.hid (HO4.out.below hb5 (Nat.le_refl _))
  have HIn5 := Lib.hid (own_below HIn4.out hb5 (Nat.le_refl _))
  obtain ⟨hB5w, hM5, bC5⟩ := HW.out _ hB5
  clear HIx HO4 HIn4 c4 hb5
  go_wp2_with fail
  have hB5d : Below M W1 w5.drew := hB5.drew
  have xC : ∀ (x : ExtW w5.heap.size w5.drew) (i : Nat), x.val.cell? ⟨N, i, none⟩ = _ := (Row.drew bC5.row).ext bC5.lt
  have xg : ∀ (x : ExtW w5.heap.size w5.drew), x.val.cell? ⟨g, 2, none⟩ = some (.slice A2 0 c2) := fun x => (x.cell _ hg5).trans c5
  refine wp_region_rough (w5.heap.size) 15 [11, 14] #[false, false, false, false, false, false, false, false, false, false, false, false, false, false, false] (by kernel_rfl) rfl rfl ?_
  generalize hwd : w5.drew = wd at xC xg ⊢
  have hBd : Below M W1 wd := by rw [← hwd]; exact hB5d
  have bCd : Blk wd N 25 [.int .i64 1, .int .i64 0, .int .i64 1, .int .i64 0, .int .i64 7] := by rw [← hwd]; exact bC5.drew
  have HInd : Hid (wd.ownsRow M 3 1 (.slice A2 0 c2) 0 []) := Lib.hid (by rw [← hwd]; exact HIn5.out)
  have HOd : Hid (OutH wd M (.slice (some ⟨g, 0, none⟩) 1 cap) [⟨7, hq.fr, [], A2, c2⟩]) := Lib.hid (by rw [← hwd]; exact HO5.out)
  have HDZ : Hid (w5.heap.size = wd.heap.size) := Lib.hid (by rw [← hwd]; rfl)
  clear hwd
  refine anyR_take0 0 _ (nth0) rfl (by kernel_rfl) (by kernel_rfl) (by kernel_rfl) (l' := #[true, false, false, false, false, false, false, false, false, false, false, false, false, false, false]) rfl rfl ?_; intro K hK; go_big_quiet_op; go_big_quiet_on
  refine anyR_take0 1 _ (nthS (nth0)) rfl (by kernel_rfl) (by kernel_rfl) (by kernel_rfl) (l' := #[true, true, false, false, false, false, false, false, false, false, false, false, false, false, false]) rfl rfl ?_; intro K hK; go_big_quiet_op; go_big_quiet_on
  refine anyR_take0 2 _ (nthS (nthS (nth0))) rfl (by kernel_rfl) (by kernel_rfl) (by kernel_rfl) (l' := #[true, true, true, false, false, false, false, false, false, false, false, false, false, false, false]) rfl rfl ?_; intro K hK; go_big_quiet_op; go_big_quiet_on
  refine anyR_take0 3 _ (nthS (nthS (nthS (nth0)))) rfl (by kernel_rfl) (by kernel_rfl) (by kernel_rfl) (l' := #[true, true, true, true, false, false, false, false, false, false, false, false, false, false, false]) rfl rfl ?_; intro K hK; go_big_quiet_op; go_big_quiet_on
  refine anyR_take0 4 _ (nthS (nthS (nthS (nthS (nth0))))) rfl (by kernel_rfl) (by kernel_rfl) (by kernel_rfl) (l' := #[true, true, true, true, true, false, false, false, false, false, false, false, false, false, false]) rfl rfl ?_; intro K hK; go_big_quiet_op; go_big_quiet_on
  refine anyR_take0 5 _ (nthS (nthS (nthS (nthS (nthS (nth0)))))) rfl (by kernel_rfl) (by kernel_rfl) (by kernel_rfl) (l' := #[true, true, true, true, true, true, false, false, false, false, false, false, false, false, false]) rfl rfl ?_; intro K hK; go_big_quiet_op; go_big_quiet_on
  refine anyR_take 6 _ (nthS (nthS (nthS (nthS (nthS (nthS (nth0))))))) rfl (by kernel_rfl) (by kernel_rfl) (by kernel_rfl) (by kernel_rfl) (l' := #[true, true, true, true, true, true, true, false, false, false, false, false, false, false, false]) rfl rfl ?_; intro K hK; go_big_quiet_op; go_big_quiet_on
  refine anyR_take0 7 _ (nthS (nthS (nthS (nthS (nthS (nthS (nthS (nth0)))))))) rfl (by kernel_rfl) (by kernel_rfl) (by kernel_rfl) (l' := #[true, true, true, true, true, true, true, true, false, false, false, false, false, false, false]) rfl rfl ?_; intro K hK; go_big_quiet_op; go_big_quiet_on
  refine anyR_take0 8 _ (nthS (nthS (nthS (nthS (nthS (nthS (nthS (nthS (nth0))))))))) rfl (by kernel_rfl) (by kernel_rfl) (by kernel_rfl) (l' := #[true, true, true, true, true, true, true, true, true, false, false, false, false, false, false]) rfl rfl ?_; intro K hK; go_big_quiet_op; go_big_quiet_on
  refine anyR_one 9 _ (nthS (nthS (nthS (nthS (nthS (nthS (nthS (nthS (nthS (nth0)))))))))) (by kernel_rfl) (l' := #[true, true, true, true, true, true, true, true, true, true, false, false, false, false, false]) rfl ?_
  have cC := bCd.row
  unfold Row at cC
  go_wp2_with fail
  refine OneR_mk (Below.refl _ _) ?_
  refine anyR_one 10 _ (nthS (nthS (nthS (nthS (nthS (nthS (nthS (nthS (nthS (nthS (nth0))))))))))) (by kernel_rfl) (l' := #[true, true, true, true, true, true, true, true, true, true, true, false, false, false, false]) rfl ?_
  clear cC
  go_wp2_with fail
  generalize hW6 : World.alloc _ _ = W6
  have hb6 : Below wd.heap.size wd W6 := by rw [← hW6]; exact (Below.refl _ _).alloc (Nat.le_refl _) _
  have hx6 : Blk W6 wd.heap.size 3 [.int .i64 0] := by rw [← hW6]; exact Blk.new2 _ [.int .i64 0] rfl
  have HIn6 := Lib.hid (own_below HInd.out hb6 (Nat.le_refl _))
  have HO6 := Lib.hid (HOd.out.below hb6 (Nat.le_refl _))
  have hB6 : Below M W1 W6 := hBd.trans (hb6.mono (HW.out _ hBd).2.1)
  clear hW6
  refine OneR_mk (hb6.mono (Nat.le_of_eq HDZ.out)) ?_
  refine anyR_one 11 _ (nthS (nthS (nthS (nthS (nthS (nthS (nthS (nthS (nthS (nthS (nthS (nth0)))))))))))) (by kernel_rfl) (l' := #[true, true, true, true, true, true, true, true, true, true, true, true, false, false, false]) rfl ?_
  go_wp2_with fail
  refine (insI0 M wd.heap.size (.slice A2 0 c2) W6 HIn6.out hx6 (HW.out _ hB6).2.1).mono ?_
  rintro e w7 ⟨v7, rfl, ho7, hg7⟩
  obtain ⟨A7, c7, hv7⟩ := own_form2 ho7
  subst hv7
  have hb7 : Below M W6 w7 := (Below.refl _ _).grown hg7 (HW.out _ hB6).2.1 (by intro k hk; exact (HIn6.out.lt k hk).1)
  have hB7 : Below M W1 w7 := hB6.trans hb7
  have ho7r : w7.ownsRow M 45 3 (.slice (some ⟨g, 0, none⟩) 1 cap) 1 [.int .i64 7, .int .i64 hq.fr, .slice A2 0 c2] := HO6.out.1.kept hg7 (.inr (by intro e; exact hne e.symm))
  have hne7 : (Value.slice A7 1 c7).ownBlock ≠ some g := by
    rcases own_apart ho7 ho7r (by decide) with h' | h'
    · rw [h']; simp
    · exact h'
  go_wp2_with fail
  refine OneR_rough (by kernel_rfl) (hb7.mono (Nat.zero_le _)) ?_
  refine anyR_take0 12 _ (nthS (nthS (nthS (nthS (nthS (nthS (nthS (nthS (nthS (nthS (nthS (nthS (nth0))))))))))))) rfl (by kernel_rfl) (by kernel_rfl) (by kernel_rfl) (l' := #[true, true, true, true, true, true, true, true, true, true, true, true, true, false, false]) rfl rfl ?_; intro K hK; go_big_quiet_op; go_big_quiet_on
  refine anyR_take0 13 _ (nthS (nthS (nthS (nthS (nthS (nthS (nthS (nthS (nthS (nthS (nthS (nthS (nthS (nth0)))))))))))))) rfl (by kernel_rfl) (by kernel_rfl) (by kernel_rfl) (l' := #[true, true, true, true, true, true, true, true, true, true, true, true, true, true, false]) rfl rfl ?_; intro K hK; go_big_quiet_op; go_big_quiet_on
  refine anyR_one 14 _ (nthS (nthS (nthS (nthS (nthS (nthS (nthS (nthS (nthS (nthS (nthS (nthS (nthS (nthS (nth0))))))))))))))) (by kernel_rfl) (l' := #[true, true, true, true, true, true, true, true, true, true, true, true, true, true, true]) rfl ?_
  have c7g := ho7r.cellAt 2 (by omega)
  have f7g := ho7r.frozenAt 2
  have hst := (ho7r.stored 2 (.slice A7 1 c7)).1
  have HF : Hid (OutH (w7.setCell ⟨g, 2, none⟩ (.slice A7 1 c7)) M (.slice (some ⟨g, 0, none⟩) 1 cap) [⟨7, hq.fr, [0], A7, c7⟩]) := Lib.hid ⟨hst, fun h' hh => by
    obtain rfl : h' = ⟨7, hq.fr, [0], A7, c7⟩ := by simpa using hh
    exact ⟨own_setCell ho7 hne7, by show (1 : Nat) ≤ 1000000; omega⟩⟩
  have HBW : Hid (Below w.heap.size w (w7.setCell ⟨g, 2, none⟩ (.slice A7 1 c7))) := Lib.hid ((HW.out _ hB7).1.setCell (p := ⟨g, 2, none⟩) (by dsimp only; have := HN.out; omega) _)
  simp only [List.getElem?_cons_succ, List.getElem?_cons_zero] at c7g
  clear hst ho7r ho7 hne7 hg7
  go_wp2_with fail
  generalize hW8 : World.setCell _ _ _ = W8
  have hbe : Below 0 w7 W8 := by rw [← hW8]; exact (Below.refl 0 w7).setCell (p := ⟨g, 2, none⟩) (Nat.zero_le _) _
  have HF8 : Hid (OutH W8 M (.slice (some ⟨g, 0, none⟩) 1 cap) [⟨7, hq.fr, [0], A7, c7⟩]) := Lib.hid (by rw [← hW8]; exact HF.out)
  have HB8 : Hid (Below w.heap.size w W8) := Lib.hid (by rw [← hW8]; exact HBW.out)
  clear hW8 HF HBW c7g f7g
  refine OneR_rough (by kernel_rfl) (hbe) ?_
  refine anyR_end (by kernel_rfl) ?_
  go_wp2_with fail
  go_ret
  exact ⟨HB8.out, _, _, rfl, HF8.out.base (by have := HN.out; omega), rfl⟩
end Go.Proofs.Ytepamedbbbfjkaa
