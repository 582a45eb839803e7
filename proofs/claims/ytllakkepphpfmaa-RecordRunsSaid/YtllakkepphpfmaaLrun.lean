/- RecordRuns: the runs of losses, walked through the link's attempts. -/
import Derived.Test.YtllakkepphpfmaaOpen
import Derived.Test.YtllakkepphpfmaaRunP
import Derived.Test.YtllakkepphpfmaaEqF
namespace Go.Proofs.Ytllakkepphpfmaa
open Go.RowKit
open Rc

set_option maxRecDepth 100000 in
set_option maxHeartbeats 2000000 in
theorem recordRuns_walk (r : Rec) (A D : Option Addr) (ca cd : Nat) (flow frame fr to_ : Int) (w : World) (hr : RecIn w r A D) :
    Calls Try.prog 6 #[.agg #[.int .i64 r.slots, .slice A r.al.length ca, .slice D r.dl.length cd], .int .i64 flow, .int .i64 frame, .int .i64 fr, .int .i64 to_] w fun e w' => e = .returned (.bool true) ∧ Below w.heap.size w w' := by
  obtain ⟨hA, hD, hm1, hm2, hnA, hnD⟩ := hr
  have few := fun W => few_any r A D ca cd W hm1 hm2
  have HF := Lib.hid few
  have HnA := Lib.hid hnA
  have HnD := Lib.hid hnD
  clear few hnA hnD
  go_enter Try.func6, Try.ntmps6
  go_wp2_with fail
  generalize hW1 : World.alloc _ _ = W1
  have bR : Blk W1 w.heap.size 28 [.int .i64 r.slots, .slice A r.al.length ca, .slice D r.dl.length cd] := by rw [← hW1]; exact Blk.new' _ [.int .i64 r.slots, .slice A r.al.length ca, .slice D r.dl.length cd] rfl
  have hb1 : Below w.heap.size w W1 := by rw [← hW1]; exact (Below.refl _ _).alloc (Nat.le_refl _) _
  clear hW1
  obtain ⟨N, hN⟩ : ∃ N, N = w.heap.size := ⟨_, rfl⟩
  rw [← hN] at bR hb1 hA hD ⊢
  obtain ⟨M, hM⟩ : ∃ M, M = W1.heap.size := ⟨_, rfl⟩
  have hNM : N < M := by rw [hM]; exact bR.lt
  have LA : Hid (∀ W, Below M W1 W → LiesA W W.heap.size A r.al ∧ LiesD W W.heap.size D r.dl) := Lib.hid fun W h => ⟨((hA.below hb1).below_le h (by omega)).more (by have := h.size; omega), ((hD.below hb1).below_le h (by omega)).more (by have := h.size; omega)⟩
  have HRow : Hid (∀ W, Below M W1 W → Row W N [.int .i64 r.slots, .slice A r.al.length ca, .slice D r.dl.length cd]) := Lib.hid fun W h => (bR.below h hNM).row
  have HW : Hid (∀ W, Below M W1 W → Below N w W ∧ M ≤ W.heap.size) := Lib.hid fun W h => ⟨hb1.trans (h.mono (by omega)), by have := h.size; omega⟩
  have HN := Lib.hid hN
  have HM := Lib.hid hM
  clear hN hA hD bR hb1
  refine (awake_any W1).mono ?_
  rintro e w2 ⟨rfl, hb2⟩
  rw [← hM] at hb2
  clear hM
  have r2 := HRow.out _ hb2
  unfold Row at r2
  go_wp2_with fail
  refine (HF.out w2).mono ?_
  rintro e w3 ⟨rfl, hb3⟩
  have hb3' : Below M W1 w3 := hb2.trans (hb3.mono (HW.out _ hb2).2)
  clear r2 hb2 hb3
  by_cases hfew : r.al.length ≤ 150 ∧ r.dl.length ≤ 100
  case neg =>
    have hf : (decide (r.al.length ≤ 150) && decide (r.dl.length ≤ 100)) = false := by
      rw [Bool.eq_false_iff]; intro h; exact hfew (by simpa using h)
    rw [hf]
    clear hf hfew
    go_wp2_with fail
    refine (awake_any w3).mono ?_
    rintro e w4 ⟨rfl, hb4⟩
    have hb4' : Below M W1 w4 := hb3'.trans (hb4.mono (HW.out _ hb3').2)
    go_wp2_with fail
    go_ret
    exact ⟨rfl, by rw [← HN.out]; exact (HW.out _ hb4').1⟩
  have hf : (decide (r.al.length ≤ 150) && decide (r.dl.length ≤ 100)) = true := by simpa using hfew
  rw [hf]
  have hl1 : r.al.length ≤ 1000000 := by omega
  have hl2 : r.dl.length ≤ 1000000 := by omega
  clear hf
  have r3 := HRow.out _ hb3'
  unfold Row at r3
  go_wp2_with fail
  refine (cp_any r A D ca cd w3 (LA.out _ hb3').1 (LA.out _ hb3').2 hl1 hl2 HnA.out HnD.out).mono ?_
  rintro e w4 ⟨hb4, A4, D4, ca4, cd4, rfl, oA4, oD4⟩
  have lA4 := own_A oA4
  have lD4 := own_D oD4
  have hb4' : Below M W1 w4 := hb3'.trans (hb4.mono (HW.out _ hb3').2)
  clear r3 hb3' hb4 oA4 oD4
  go_wp2_with fail
  refine (check_any r A4 D4 ca4 cd4 w4 lA4 lD4 hm1 hm2).mono ?_
  rintro e w5 ⟨rfl, hb5⟩
  have hb5' : Below M W1 w5 := hb4'.trans (hb5.mono (HW.out _ hb4').2)
  clear hb4' hb5 lA4 lD4
  cases hgd : good r with
  | false =>
    rw [show checkE r = 1 by simp [checkE, hgd]]
    clear hgd
    go_wp2_with fail
    refine (awake_any w5).mono ?_
    rintro e w6 ⟨rfl, hb6⟩
    have hb6' : Below M W1 w6 := hb5'.trans (hb6.mono (HW.out _ hb5').2)
    go_wp2_with fail
    go_ret
    exact ⟨rfl, by rw [← HN.out]; exact (HW.out _ hb6').1⟩
  | true =>
  rw [show checkE r = 0 by simp [checkE, hgd]]
  clear hgd
  have r5 := HRow.out _ hb5'
  unfold Row at r5
  go_wp2_with fail
  refine (cp_any r A D ca cd w5 (LA.out _ hb5').1 (LA.out _ hb5').2 hl1 hl2 HnA.out HnD.out).mono ?_
  rintro e w6 ⟨hb6, A6, D6, ca6, cd6, rfl, oA6, oD6⟩
  have lA6 := own_A oA6
  have hb6' : Below M W1 w6 := hb5'.trans (hb6.mono (HW.out _ hb5').2)
  clear r5 hb5' hb6 oA6 oD6
  go_wp2_with fail
  refine (attempts2_any r A6 D6 ca6 cd6 flow frame w6 lA6 hl1).mono ?_
  rintro e w7 ⟨hb7, va7, rfl, o7⟩
  have hb7' : Below M W1 w7 := hb6'.trans (hb7.mono (HW.out _ hb6').2)
  clear lA6 hb6' hb7
  have hFm : ∀ a ∈ ofFrame r.al flow frame, a.cl = flow ∧ a.f = frame := fun a ha => by
    have := (List.mem_filter.1 ha).2
    simpa using this
  have hFl : (ofFrame r.al flow frame).length ≤ 150 := Nat.le_trans (List.length_filter_le _ _) hfew.1
  obtain ⟨F, hF⟩ : ∃ F, F = ofFrame r.al flow frame := ⟨_, rfl⟩
  rw [← hF] at o7 hFm hFl
  obtain ⟨P7, k7, hv7⟩ := own_form o7
  subst hv7
  have lF := own_A o7
  obtain ⟨n, hn⟩ : ∃ n, n = F.length := ⟨_, rfl⟩
  rw [← hn] at hFl ⊢
  obtain ⟨K, hK⟩ : ∃ K, K = w7.heap.size := ⟨_, rfl⟩
  rw [← hK] at lF
  have hMK : M ≤ K := by rw [hK]; exact (HW.out _ hb7').2
  have HFM := Lib.hid hFm
  have HFF := Lib.hid hF
  have HLN := Lib.hid hn
  clear hFm hF hn o7
  obtain ⟨i0, hi, hz0, hz1, hz2⟩ := info_parts Try.infoAtt
  have HI := Lib.hid (And.intro hi (And.intro hz0 (And.intro hz1 hz2)))
  clear hi hz0 hz1 hz2
  obtain ⟨L, hL⟩ : ∃ L, L = F.filter (linkB fr to_) := ⟨_, rfl⟩
  have HLL := Lib.hid hL
  obtain ⟨Rel, hRel⟩ : ∃ Rel : Nat → Value → World → Prop, Rel = fun k va W => ∃ acc : List Att, acc.length ≤ k ∧ W.ownsRow K 45 8 va acc.length (flatA acc) ∧ Below K w7 W ∧ Hid (L = acc ++ (F.drop k).filter (linkB fr to_)) := ⟨_, rfl⟩
  have HRel := Lib.hid hRel
  have hst0 : Rel 0 (.slice none 0 0) w7 := by
    rw [hRel]
    exact ⟨[], Nat.le_refl _, World.ownsRow_nil _ _ _ _, Below.refl _ _, Lib.hid (by rw [hL]; simp)⟩
  clear hRel hL
  have HK := Lib.hid hK
  clear hK
  go_wp2_with fail
  go_loopw [11, 43] (fun s11 i wr => ∃ (k : Nat) (va : Value), va = s11 ∧ k ≤ n ∧ i = .int .i64 k ∧ Rel k va wr) (fun _ i _ => n - (intOf i).toNat)
  case atStart => exact ⟨0, _, rfl, Nat.zero_le _, rfl, hst0⟩
  case round =>
    clear hst0
    obtain ⟨k, va, rfl, hk, rfl, hrel⟩ := hrel
    rw [HRel.out] at hrel
    obtain ⟨acc, hal, hown, hb, hst⟩ := hrel
    have hKw : K ≤ wr.heap.size := by have := hb.size; have := HK.out; omega
    by_cases hlt : k < n
    · obtain ⟨a, ha⟩ := get_of_lt (l := F) (k := k) (by rw [← HLN.out]; exact hlt)
      obtain ⟨b, off, rfl, hbB, hcs⟩ := (lF.below hb).at_ ha
      obtain ⟨c0, c1, c2, c3, c4, c5, c6, c7⟩ := hcs k a ha
      have hd := Lib.hid (drop_of_get ha)
      obtain ⟨hq1, hq2⟩ := HFM.out a (List.mem_of_getElem? ha)
      have HV : Hid (∀ g, va.ownBlock = some g → K ≤ g ∧ g < wr.heap.size) := Lib.hid hown.lt
      have HO := Lib.hid hown
      clear hcs ha hown
      have e1 : (a.cl == flow) = true := by simp [hq1]
      have e2 : (a.f == frame) = true := by simp [hq2]
      have e1' : (a.cl != flow) = false := by simp [hq1]
      have e2' : (a.f != frame) = false := by simp [hq2]
      clear hq1 hq2
      go_upto_region 7 with fail
      generalize hW1 : wr.alloc _ = W2
      have ba : Blk W2 wr.heap.size 45 [.int .i64 a.s, .int .i64 a.f, .int .i64 a.cs, .int .i64 a.co, .int .i64 a.cf, .int .i64 a.ct, .int .i64 a.cl, .int .i64 a.o] := by rw [← hW1]; exact Blk.new' _ [.int .i64 a.s, .int .i64 a.f, .int .i64 a.cs, .int .i64 a.co, .int .i64 a.cf, .int .i64 a.ct, .int .i64 a.cl, .int .i64 a.o] rfl
      have hb1 : Below K w7 W2 := by rw [← hW1]; exact hb.alloc hKw _
      have hsz : wr.heap.size + 1 ≤ W2.heap.size := by rw [← hW1]; simp
      have hown1 : W2.ownsRow K 45 8 va acc.length (flatA acc) := by rw [← hW1]; exact HO.out.alloc _
      have ca' := ba.row
      unfold Row at ca'
      clear hW1 c0 c1 c2 c3 c4 c5 c6 c7 HO
      by_cases hm : a.cf = fr ∧ a.ct = to_
      · obtain ⟨h1, h2⟩ := hm
        have g1 : (a.cf == fr) = true := by simp [h1]
        have g2 : (a.ct == to_) = true := by simp [h2]
        have hst' : Hid (L = (acc ++ [a]) ++ (F.drop (k + 1)).filter (linkB fr to_)) := Lib.hid (by rw [hst.out, hd.out]; simp [linkB, h1, h2])
        have HO := Lib.hid hown1
        clear hown1 hst h1 h2
        go_wp2_with (at_builtin; refine wpList_append_own_at _ rfl (.tmp 70) (.tmp 72) 23 rfl K 45 i0 (.agg #[.int .i64 0, .int .i64 0, .int .i64 0, .int .i64 0, .int .i64 0, .int .i64 0, .int .i64 0, .int .i64 0]) 8 64 Try.underlying23 HI.out.1 HI.out.2.1 HI.out.2.2.1 HI.out.2.2.2 rfl (by decide) va acc.length (flatA acc) rfl (HO.out.alloc _) ⟨W2.heap.size, 0, none⟩ 1 1 [.int .i64 a.s, .int .i64 a.f, .int .i64 a.cs, .int .i64 a.co, .int .i64 a.cf, .int .i64 a.ct, .int .i64 a.cl, .int .i64 a.o] rfl rfl ?e0 ?e1 ?e2 ?e3 ?e4 ?_)
        case e0 => exact (Blk.new' 45 [.int .i64 a.s, .int .i64 a.f, .int .i64 a.cs, .int .i64 a.co, .int .i64 a.cf, .int .i64 a.ct, .int .i64 a.cl, .int .i64 a.o] rfl).news
        case e1 => exact ints_one (l := [a.s, a.f, a.cs, a.co, a.cf, a.ct, a.cl, a.o])
        case e2 => unfold maxLen; omega
        case e3 => omega
        case e4 => simp; omega
        intro v3 w8 ho3 hg3 hnil3 hat3
        clear hnil3 hat3
        have hb3 : Below K w7 w8 := (hb1.alloc (by omega) _).grown hg3 (by simp; omega) (by intro g hg; have := HV.out g hg; omega)
        obtain ⟨A3, c3, hv3⟩ := own_form ho3
        have hnew : Rel (k + 1) v3 w8 := by
          rw [HRel.out]
          exact ⟨acc ++ [a], by simp; omega, by simpa [flatA, Att.row] using ho3, hb3, hst'⟩
        have HNEW := Lib.hid hnew
        clear ho3 hg3 HO hnew
        subst hv3
        go_wp2_with fail
        go_roundw
        case rel => exact ⟨k + 1, _, rfl, by omega, by go_num, HNEW.out⟩
        case measure => simp [intOf]; omega
      · have hnew : Rel (k + 1) va W2 := by
          rw [HRel.out]
          refine ⟨acc, by omega, hown1, hb1, Lib.hid ?_⟩
          rw [hst.out, hd.out, List.filter_cons]
          have : linkB fr to_ a = false := by
            unfold linkB
            rw [Bool.and_eq_false_iff]
            by_cases h1 : a.cf = fr
            · exact .inr (by simpa using fun h2 => hm ⟨h1, h2⟩)
            · exact .inl (by simpa using h1)
          rw [this]
          simp
        clear hst hown1
        by_cases h1 : a.cf = fr
        · have h2 : ¬ a.ct = to_ := fun h => hm ⟨h1, h⟩
          have g1 : (a.cf == fr) = true := by simp [h1]
          have g2 : (a.ct == to_) = false := by simp [h2]
          go_wp2_with fail
          go_roundw
          case rel => exact ⟨k + 1, _, rfl, by omega, by go_num, hnew⟩
          case measure => simp [intOf]; omega
        · have g1 : (a.cf == fr) = false := by simp [h1]
          go_wp2_with fail
          go_roundw
          case rel => exact ⟨k + 1, _, rfl, by omega, by go_num, hnew⟩
          case measure => simp [intOf]; omega
    · have hLe : Hid (L = acc) := Lib.hid (by rw [hst.out, List.drop_of_length_le (by rw [← HLN.out]; omega)]; simp)
      clear hst
      have hb8 : Below M W1 wr := hb7'.trans (hb.mono hMK)
      rw [← hLe.out] at hown hal
      clear hLe acc
      obtain ⟨PL, kL, hvL⟩ := own_form hown
      subst hvL
      have HOL := Lib.hid hown
      obtain ⟨m, hm⟩ : ∃ m, m = L.length := ⟨_, rfl⟩
      rw [← hm] at hal ⊢
      have HLM := Lib.hid hm
      clear hm hown
      have r8 := HRow.out _ hb8
      unfold Row at r8
      obtain ⟨w8, hw8⟩ : ∃ w8 : World, w8 = wr := ⟨_, rfl⟩
      subst hw8
      go_wp2_with fail
      refine (cp_any r A D ca cd w8 (LA.out _ hb8).1 (LA.out _ hb8).2 hl1 hl2 HnA.out HnD.out).mono ?_
      rintro e w9 ⟨hb9, A9, D9, ca9, cd9, rfl, oA9, oD9⟩
      have lA9 := own_A oA9
      have hb9' : Below M W1 w9 := hb8.trans (hb9.mono (HW.out _ hb8).2)
      clear r8 oA9 oD9
      go_wp2_with fail
      refine (losses_any r A9 D9 ca9 cd9 flow frame fr to_ w9 lA9 hl1).mono ?_
      rintro e w10 ⟨hb10, vo, vs, rfl, oo, hruns⟩
      have hb10' : Below M W1 w10 := hb9'.trans (hb10.mono (HW.out _ hb9').2)
      have lL0 : w10.ownsRow K 45 8 (.slice PL m kL) L.length (flatA L) := by
        have h := HOL.out
        rw [HLM.out]
        exact own_kept h fun g cs hg hh => (hh.below hb9 hh.lt).below hb10 (Nat.lt_of_lt_of_le hh.lt hb9.size)
      have lL := own_A lL0
      rw [lossP_runs, ← HFF.out, ← HLL.out] at hruns
      obtain ⟨RS, hRS⟩ : ∃ RS, RS = runsOf L := ⟨_, rfl⟩
      rw [← hRS] at hruns
      obtain ⟨Po, ko, hvo⟩ := own_form oo
      subst hvo
      obtain ⟨q, hq⟩ : ∃ q, q = vs.length := ⟨_, rfl⟩
      have hqR : q = RS.length := by rw [hq]; exact hruns.1
      have hql : q ≤ 200 := by
        have := runsOf_len L.length L (Nat.le_refl _)
        rw [← hRS, ← HLM.out] at this
        omega
      have hcap : m ≤ kL := by
        rcases lL0.2 with ⟨h0, h1⟩ | ⟨g, cap, cur, hv, _, _, hc, _⟩
        · injection h0 with _ h0 h2; omega
        · injection hv with _ _ hv; omega
      have HRS := Lib.hid hRS
      have HQ := Lib.hid hq
      have HQR := Lib.hid hqR
      have HOO := Lib.hid oo
      have HRU := Lib.hid hruns
      rw [← hq]
      clear hRS hq hqR oo hruns lA9 hb9 hb10 hb9' hb8 HOL
      go_wp2_with fail
      go_loop [15, 84] (fun s15 s84 => ∃ (i at_ : Nat), i ≤ q ∧ at_ ≤ m ∧ s84 = .int .i64 i ∧ s15 = .int .i64 at_ ∧ Hid (RS.drop i = runsOf (L.drop at_)) ∧ Hid (0 < i → ∀ a, L[at_]? = some a → a.o = 1)) (fun _ s84 => q - (intOf s84).toNat)
      case atStart => exact ⟨0, 0, Nat.zero_le _, Nat.zero_le _, rfl, rfl, Lib.hid (by rw [HRS.out]; simp), Lib.hid (fun h => by omega)⟩
      case round =>
        obtain ⟨i, at_, hi, hat, rfl, rfl, hst, hac⟩ := hrel
        by_cases hlt2 : i < q
        · obtain ⟨v, hv⟩ := get_of_lt (l := vs) (k := i) (by rw [← HQ.out]; exact hlt2)
          obtain ⟨run, hrun⟩ := get_of_lt (l := RS) (k := i) (by rw [← HQR.out]; exact hlt2)
          obtain ⟨g, ePo, _, cv⟩ := own_at HOO.out hv
          obtain ⟨qx, _⟩ := HRU.out.2 i v run hv hrun
          obtain ⟨Ax, cx, ev, lx⟩ := own_liesI qx
          have hst2 := hst.out
          rw [drop_of_get hrun] at hst2
          obtain ⟨j, hj1, hj2, hj3, hj4, hj5⟩ := runs_find _ at_ (Nat.le_refl _) hst2.symm
          obtain ⟨hp1, hp2, hp3, hp4, hp5⟩ := runs_at hj5 hj4
          rw [← HLM.out] at hj2 hp2
          have HJ3 := Lib.hid hj3
          have HJ4 := Lib.hid hj4
          have HP3 := Lib.hid hp3
          have HP4 := Lib.hid hp4
          have HP5 := Lib.hid hp5
          have hacj : Hid (0 < i → at_ < j) := Lib.hid (fun h => by
            rcases Nat.lt_or_ge at_ j with h1 | h1
            · exact h1
            · exfalso
              have hatj : at_ = j := by omega
              obtain ⟨a, ha⟩ := get_of_lt (l := L) (k := at_) (by rw [← HLM.out]; omega)
              exact hj4 a (by rw [← hatj]; exact ha) (hac.out h a ha))
          subst ePo ev
          clear hv hrun qx hst hst2 hj3 hj4 hj5 hp3 hp4 hp5 hac
          obtain ⟨z, hz⟩ : ∃ z, z = run.length := ⟨_, rfl⟩
          rw [← hz] at hp1 hp2 cv
          have HZ := Lib.hid hz
          clear hz
          go_wp2_with fail
          -- acknowledged ones are skipped
          go_loop [15, 18] (fun s15 s18 => ∃ (x : Nat), at_ ≤ x ∧ x ≤ j ∧ s15 = .int .i64 x ∧ s18 = .int .i64 ((x - at_ : Nat) : Nat)) (fun s15 _ => j - (intOf s15).toNat)
          case atStart => exact ⟨at_, Nat.le_refl _, hj1, rfl, by simp⟩
          case round =>
            obtain ⟨x, hx1, hx2, rfl, rfl⟩ := hrel
            obtain ⟨a, ha⟩ := get_of_lt (l := L) (k := x) (by rw [← HLM.out]; omega)
            obtain ⟨b, off, ePL, _, hcs⟩ := lL.at_ ha
            obtain ⟨c0, c1, c2, c3, c4, c5, c6, c7⟩ := hcs x a ha
            by_cases hxj : x < j
            · have ho := HJ3.out x a hx1 hxj ha
              have oo : (a.o == 1) = true := by simp [ho]
              subst ePL
              clear hcs ha ho
              go_wp2_with fail
              go_round
              case rel => exact ⟨x + 1, by omega, by omega, by go_num, by congr 1; omega⟩
              case measure => simp [intOf]; omega
            · have hxe : x = j := by omega
              subst hxe
              have ho := HJ4.out a ha
              have oo : (a.o == 1) = false := by simp [ho]
              have hgo : Hid (¬ (0 < i ∧ x - at_ = 0)) := Lib.hid (fun h => by have := hacj.out h.1; omega)
              have hlx : ∀ (kk : Nat) (s : Int), run[kk]? = some s → ∃ b off, Ax = some ⟨b, off, none⟩ ∧ w10.cell? ⟨b, off + kk, none⟩ = some (.int .i64 s) := fun kk s hs => lx.at_ hs
              have HLX := Lib.hid hlx
              clear hcs ho hlx ha
              have hii : ((0 : Int) < (i : Int) ∧ ¬ ((x - at_ : Nat) : Int) = 0) ∨ ¬ (0 : Int) < (i : Int) := by
                by_cases h0 : 0 < i
                · exact .inl ⟨by omega, fun h => hgo.out ⟨h0, by omega⟩⟩
                · exact .inr (by omega)
              subst ePL
              clear hgo
              rcases hii with ⟨h0, h1⟩ | h0
              · have g0 : decide ((0 : Int) < (i : Int)) = true := by simpa using h0
                have g1 : (((x - at_ : Nat) : Int) == 0) = false := by simpa using h1
                go_wp2_with fail
                go_loop [15, 116] (fun s15 s116 => ∃ (kk : Nat), kk ≤ z ∧ s116 = .int .i64 kk ∧ s15 = .int .i64 ((x + kk : Nat) : Nat)) (fun _ s116 => z - (intOf s116).toNat)
                case atStart => exact ⟨0, Nat.zero_le _, rfl, rfl⟩
                case round =>
                  obtain ⟨kk, hkk, rfl, rfl⟩ := hrel
                  by_cases hlt4 : kk < z
                  · obtain ⟨s, hs⟩ := get_of_lt (l := run) (k := kk) (by rw [← HZ.out]; exact hlt4)
                    obtain ⟨b2, off2, eAx, cs2⟩ := HLX.out kk s hs
                    obtain ⟨a2, ha2, hs2, ho2⟩ := HP3.out kk s hs
                    obtain ⟨b3, off3, ePL3, _, hcs3⟩ := lL.at_ ha2
                    injection ePL3 with ePL3
                    injection ePL3 with e31 e32 _
                    subst e31 e32
                    obtain ⟨d0, d1, d2, d3, d4, d5, d6, d7⟩ := hcs3 (x + kk) a2 ha2
                    have os : (a2.s != s) = false := by simp [hs2]
                    have oo2 : (a2.o == 1) = false := by simp [ho2]
                    have ge : ¬ ((m : Int) ≤ (x : Int) + (kk : Int)) := by omega
                    have lt4 : x + kk < m := by omega
                    subst eAx
                    clear hs ha2 hs2 ho2 hcs3
                    go_wp2_with fail
                    go_round
                    case rel => exact ⟨kk + 1, by omega, by go_num, by go_num⟩
                    case measure => simp [intOf]; omega
                  · have hke : kk = z := by omega
                    subst hke
                    have h6 := Lib.hid (show RS.drop (i + 1) = runsOf (L.drop (x + kk)) by rw [HZ.out]; exact HP4.out.symm)
                    have h7 : Hid (0 < i + 1 → ∀ a, L[x + kk]? = some a → a.o = 1) := Lib.hid (fun _ a ha => HP5.out a (by rw [← HZ.out]; exact ha))
                    go_wp2_with fail
                    go_round
                    case rel => exact ⟨i + 1, x + kk, by omega, by omega, by go_num, rfl, h6, h7⟩
                    case measure => simp [intOf]; omega
              · have g0 : decide ((0 : Int) < (i : Int)) = false := by simpa using h0
                go_wp2_with fail
                go_loop [15, 116] (fun s15 s116 => ∃ (kk : Nat), kk ≤ z ∧ s116 = .int .i64 kk ∧ s15 = .int .i64 ((x + kk : Nat) : Nat)) (fun _ s116 => z - (intOf s116).toNat)
                case atStart => exact ⟨0, Nat.zero_le _, rfl, rfl⟩
                case round =>
                  obtain ⟨kk, hkk, rfl, rfl⟩ := hrel
                  by_cases hlt4 : kk < z
                  · obtain ⟨s, hs⟩ := get_of_lt (l := run) (k := kk) (by rw [← HZ.out]; exact hlt4)
                    obtain ⟨b2, off2, eAx, cs2⟩ := HLX.out kk s hs
                    obtain ⟨a2, ha2, hs2, ho2⟩ := HP3.out kk s hs
                    obtain ⟨b3, off3, ePL3, _, hcs3⟩ := lL.at_ ha2
                    injection ePL3 with ePL3
                    injection ePL3 with e31 e32 _
                    subst e31 e32
                    obtain ⟨d0, d1, d2, d3, d4, d5, d6, d7⟩ := hcs3 (x + kk) a2 ha2
                    have os : (a2.s != s) = false := by simp [hs2]
                    have oo2 : (a2.o == 1) = false := by simp [ho2]
                    have ge : ¬ ((m : Int) ≤ (x : Int) + (kk : Int)) := by omega
                    have lt4 : x + kk < m := by omega
                    subst eAx
                    clear hs ha2 hs2 ho2 hcs3
                    go_wp2_with fail
                    go_round
                    case rel => exact ⟨kk + 1, by omega, by go_num, by go_num⟩
                    case measure => simp [intOf]; omega
                  · have hke : kk = z := by omega
                    subst hke
                    have h6 := Lib.hid (show RS.drop (i + 1) = runsOf (L.drop (x + kk)) by rw [HZ.out]; exact HP4.out.symm)
                    have h7 : Hid (0 < i + 1 → ∀ a, L[x + kk]? = some a → a.o = 1) := Lib.hid (fun _ a ha => HP5.out a (by rw [← HZ.out]; exact ha))
                    go_wp2_with fail
                    go_round
                    case rel => exact ⟨i + 1, x + kk, by omega, by omega, by go_num, rfl, h6, h7⟩
                    case measure => simp [intOf]; omega
        · have hie : i = q := by omega
          have hend := runs_end (l := L) (k := at_) (by rw [← hst.out]; exact List.drop_of_length_le (by rw [← HQR.out]; omega))
          have HEND := Lib.hid hend
          clear hst hac hend
          have hbF : Below N w w10 := (HW.out _ hb10').1
          have hNw : N ≤ w10.heap.size := by have := (HW.out _ hb10').2; omega
          clear hb7' lF
          by_cases ham : at_ = m
          · subst ham
            cases PL with
            | none =>
              have h00 : at_ = 0 ∧ kL = 0 := by
                rcases lL0.2 with ⟨h0, _⟩ | ⟨g, cap, cur, hv, _⟩
                · injection h0 with _ h0 h2; exact ⟨h0, h2⟩
                · cases hv
              obtain ⟨h01, h02⟩ := h00
              subst h01 h02
              clear lL0 lL
              go_wp2_with fail
              refine wp_loop_rounds 1 ?_
              rw [rounds_succ]
              go_wp2_with fail
              go_ret
              exact ⟨rfl, by rw [← HN.out]; exact hbF⟩
            | some ad =>
              clear lL0 lL
              by_cases hkc : kL = at_
              · subst hkc
                go_wp2_with fail
                refine wp_loop_rounds 1 ?_
                rw [rounds_succ]
                go_wp2_with fail
                go_ret
                exact ⟨rfl, by rw [← HN.out]; exact hbF⟩
              · go_wp2_with fail
                refine wp_loop_rounds 1 ?_
                rw [rounds_succ]
                go_wp2_with fail
                go_ret
                exact ⟨rfl, by rw [← HN.out]; exact hbF⟩
          · have hlt5 : at_ < m := by omega
            obtain ⟨a0, ha0⟩ := get_of_lt (l := L) (k := at_) (by rw [← HLM.out]; exact hlt5)
            obtain ⟨b, off, ePL, hbB, hcs⟩ := lL.at_ ha0
            have HCS : Hid (∀ (k : Nat) (a : Att), L[at_ + k]? = some a → ∀ W, Below w10.heap.size w10 W → W.cell? ⟨b, off + at_ * 8 + k * 8, none⟩ = some (.int .i64 a.s) ∧ W.cell? ⟨b, off + at_ * 8 + k * 8 + 1, none⟩ = some (.int .i64 a.f) ∧ W.cell? ⟨b, off + at_ * 8 + k * 8 + 2, none⟩ = some (.int .i64 a.cs) ∧
                W.cell? ⟨b, off + at_ * 8 + k * 8 + 3, none⟩ = some (.int .i64 a.co) ∧ W.cell? ⟨b, off + at_ * 8 + k * 8 + 4, none⟩ = some (.int .i64 a.cf) ∧ W.cell? ⟨b, off + at_ * 8 + k * 8 + 5, none⟩ = some (.int .i64 a.ct) ∧ W.cell? ⟨b, off + at_ * 8 + k * 8 + 6, none⟩ = some (.int .i64 a.cl) ∧ W.cell? ⟨b, off + at_ * 8 + k * 8 + 7, none⟩ = some (.int .i64 a.o)) := Lib.hid (fun k a ha W hW => by
              have h := hcs (at_ + k) a ha
              rw [show off + (at_ + k) * 8 = off + at_ * 8 + k * 8 by omega] at h
              have hk := fun j => hW.cell (p := ⟨b, off + at_ * 8 + k * 8 + j, none⟩) hbB
              exact ⟨(hk 0).trans h.1, (hk 1).trans h.2.1, (hk 2).trans h.2.2.1, (hk 3).trans h.2.2.2.1, (hk 4).trans h.2.2.2.2.1, (hk 5).trans h.2.2.2.2.2.1, (hk 6).trans h.2.2.2.2.2.2.1, (hk 7).trans h.2.2.2.2.2.2.2⟩)
            subst ePL
            have hkc : ¬ kL = at_ := by omega
            have hak : at_ < kL := by omega
            clear hcs ha0 lL lL0
            go_wp2_with fail
            go_loopw [152] (fun i5 wr => ∃ (k : Nat), k ≤ m - at_ ∧ i5 = .int .i64 k ∧ Below w10.heap.size w10 wr) (fun i5 _ => (m - at_) - (intOf i5).toNat)
            case atStart => exact ⟨0, Nat.zero_le _, rfl, Below.refl _ _⟩
            case round =>
              obtain ⟨k, hk5, rfl, hb5⟩ := hrel
              by_cases hlt6 : k < m - at_
              · obtain ⟨a, ha⟩ := get_of_lt (l := L) (k := at_ + k) (by rw [← HLM.out]; omega)
                obtain ⟨c0, c1, c2, c3, c4, c5, c6, c7⟩ := HCS.out k a ha wr hb5
                have ho := HEND.out (at_ + k) a (by omega) ha
                have oo : (a.o != 1) = false := by simp [ho]
                clear ha ho
                go_wp2_with fail
                go_roundw
                case rel => exact ⟨k + 1, by omega, by go_num, hb5.alloc hb5.size _⟩
                case measure => simp [intOf]; omega
              · go_wp2_with fail
                go_ret
                exact ⟨rfl, by rw [← HN.out]; exact hbF.trans (hb5.mono hNw)⟩

end Go.Proofs.Ytllakkepphpfmaa
