/- Walks: add of package node, insert of its reference. -/
import Derived.Test.YtepamedbbbfjkaaNodR
namespace Go.Proofs.Ytepamedbbbfjkaa
open Go.RowKit
open Nd
theorem low_take (l : List Ho) (id : Int) : l.take (lowH l id) = l.takeWhile (fun h => decide (h.fl < id)) := by
  have h := List.takeWhile_append_dropWhile (p := fun h : Ho => decide (h.fl < id)) (l := l)
  unfold lowH
  generalize l.takeWhile (fun h => decide (h.fl < id)) = a at *
  generalize l.dropWhile (fun h => decide (h.fl < id)) = b at *
  rw [← h]; simp
theorem low_drop (l : List Ho) (id : Int) : l.drop (lowH l id) = l.dropWhile (fun h => decide (h.fl < id)) := by
  have h := List.takeWhile_append_dropWhile (p := fun h : Ho => decide (h.fl < id)) (l := l)
  unfold lowH
  generalize l.takeWhile (fun h => decide (h.fl < id)) = a at *
  generalize l.dropWhile (fun h => decide (h.fl < id)) = b at *
  rw [← h]; simp
theorem low_le (l : List Ho) (id : Int) : lowH l id ≤ l.length := by
  unfold lowH
  exact (List.takeWhile_sublist _).length_le
theorem ins_map (l : List Ho) (x : Ho) : (l.take (lowH l x.fl) ++ x :: l.drop (lowH l x.fl)).map Ho.d = ins (l.map Ho.d) x.d := by
  rw [low_take, low_drop, List.map_append, List.map_cons]
  unfold ins
  rw [List.takeWhile_map, List.dropWhile_map]
  rfl
theorem mem_low {l : List Ho} {x h : Ho} {k : Nat} (hh : h ∈ l.take k ++ x :: l.drop k) : h = x ∨ h ∈ l := by
  rcases List.mem_append.1 hh with hh | hh
  · exact .inr (List.mem_of_mem_take hh)
  · rcases List.mem_cons.1 hh with hh | hh
    · exact .inl hh
    · exact .inr (List.mem_of_mem_drop hh)
theorem nil_own (w : World) (base : Nat) (fl fr : Int) : OwnI w base ⟨fl, fr, [], none, 0⟩ := ⟨World.ownsRow_nil _ _ _ _, Nat.zero_le _⟩

set_option maxRecDepth 100000 in
set_option maxHeartbeats 2000000 in
theorem hadd_any (l : List Ho) (fl fr : Int) (base : Nat) (v : Value) (w : World) (hO : OutH w base v l) (hup : UpH l) (hl : l.length ≤ 100000) (hB : base ≤ w.heap.size) :
    Calls Try.prog 32 #[v, .agg #[.int .i64 fl, .int .i64 fr, .slice none 0 0]] w fun e w' => Below base w w' ∧ ∃ v' l', e = .returned v' ∧ OutH w' base v' l' ∧ l'.map Ho.d = ins (l.map Ho.d) ⟨fl, fr, []⟩ := by
  obtain ⟨A, c, rfl, hA⟩ := hO.lies
  have HO := Lib.hid hO
  have hb1 : Below w.heap.size w (w.alloc (.cells #[.int .i64 fl, .int .i64 fr, .slice none 0 0] 45)) := (Below.refl _ _).alloc (Nat.le_refl _) _
  have hA1 := hA.later hb1
  have Con := Lib.hid (bin_any l fl A c (w.alloc (.cells #[.int .i64 fl, .int .i64 fr, .slice none 0 0] 45)) hA1 (by omega) hup)
  have hle := low_le l fl
  have hmap := Lib.hid (ins_map l ⟨fl, fr, [], none, 0⟩)
  dsimp only [Ho.d] at hmap
  have Ins := Lib.hid (fun W bx (ho : W.ownsRow base 45 3 (.slice A l.length c) l.length (l.flatMap Ho.row)) hx hB' hne => insertH_any l (lowH l fl) base bx (.slice A l.length c) ⟨fl, fr, [], none, 0⟩ W ho (low_le l fl) hx (by omega) hB' hne)
  clear hO hA hA1 hup
  obtain ⟨n, hn⟩ : ∃ n, n = l.length := ⟨_, rfl⟩
  rw [← hn] at hl HO Con Ins hle ⊢
  obtain ⟨k, hk⟩ : ∃ k, k = lowH l fl := ⟨_, rfl⟩
  rw [← hk] at hle Con Ins hmap
  have HN := Lib.hid hn
  clear hn hk
  go_enter Try.func32, Try.ntmps32
  go_wp2_with fail
  refine Con.out.mono ?_
  rintro e w2 ⟨hb2, b, rfl⟩
  have r2 := (Row.new w [.int .i64 fl, .int .i64 fr, .slice none 0 0] 45).below hb2 (by simp)
  have hz2 : w.heap.size < w2.heap.size := by have := hb2.size; simp at this; omega
  have hb02 : Below w.heap.size w w2 := hb1.trans (hb2.mono (by simp))
  have HO2 := Lib.hid (HO.out.below hb02 (Nat.le_refl _))
  unfold Row at r2
  clear hb1 hb2 HO Con
  go_wp2_with fail
  have hbn : Below w2.heap.size w2 (w2.alloc (.cells #[.int .i64 fl, .int .i64 fr, .slice none 0 0] 45)) := (Below.refl _ _).alloc (Nat.le_refl _) _
  have HO3 := HO2.out.below hbn (Nat.le_refl _)
  refine (Ins.out _ w2.heap.size (by have := HO3.1; rwa [← HN.out] at this) (Blk.new2 45 [.int .i64 fl, .int .i64 fr, .slice none 0 0] rfl) (by simp; omega) (own_new HO2.out.1 (Nat.le_refl _))).mono ?_
  rintro e w3 ⟨v3, rfl, ho3, hg3⟩
  have hb3 : Below base w w3 := ((hb02.mono hB).trans (hbn.mono (by omega))).grown hg3 (by simp; omega) (by intro g hg; exact (HO3.1.lt g hg).1)
  have HF : Hid (OutH w3 base v3 (l.take k ++ (⟨fl, fr, [], none, 0⟩ : Ho) :: l.drop k)) := Lib.hid (OutH.turn HO3 hg3 (by
      have e : (l.take k ++ (⟨fl, fr, [], none, 0⟩ : Ho) :: l.drop k).length = n + 1 := by
        rw [List.length_append, List.length_cons, List.length_take, List.length_drop, ← HN.out]; omega
      rw [e]; exact ho3) (fun h hh => by
      rcases mem_low hh with rfl | hh
      · exact nil_own _ _ _ _
      · exact HO3.2 h hh))
  obtain ⟨A3, c3, hv3⟩ := own_form2 ho3
  clear ho3 hg3 HO3 HO2 hbn r2 Ins
  subst hv3
  go_wp2_with fail
  go_ret
  exact ⟨hb3, _, _, rfl, HF.out, hmap.out⟩

set_option maxRecDepth 100000 in
set_option maxHeartbeats 8000000 in
theorem rinsert_some (l : List Ho) (fl fr : Int) (base g c : Nat) (w : World) (hO : OutH w base (.slice (some ⟨g, 0, none⟩) l.length c) l) (hl : l.length ≤ 100000) (hB : base ≤ w.heap.size) :
    Calls Try.prog 40 #[(.slice (some ⟨g, 0, none⟩) l.length c), .agg #[.int .i64 fl, .int .i64 fr, .slice none 0 0]] w fun e w' => Below w.heap.size w w' ∧ ∃ v' l', e = .returned v' ∧ OutH w' base v' l' ∧ l'.map Ho.d = ins (l.map Ho.d) ⟨fl, fr, []⟩ := by
  obtain ⟨n, hn⟩ : ∃ n, n = l.length := ⟨_, rfl⟩
  have hnc : n ≤ c ∧ c ≤ maxLen := by
    rcases hO.1.2 with ⟨h, _⟩ | ⟨g1, cap, cur, h, _, _, h1, h2, _⟩
    · cases h
    · simp only [Value.slice.injEq, Option.some.injEq, Addr.mk.injEq, and_true, true_and] at h
      obtain ⟨rfl, rfl⟩ := h
      rw [hn]; exact ⟨h1, h2⟩
  have hL : LiesH w w.heap.size (some ⟨g, 0, none⟩) l := by
    obtain ⟨A1, c1, e, h⟩ := hO.lies
    simp only [Value.slice.injEq] at e
    rw [e.1]; exact h
  have HL := Lib.hid (fun W (h : Below w.heap.size w W) => (LiesH.later hL h).1)
  obtain ⟨hnc, hcm⟩ := hnc
  have hcm' : c ≤ 9223372036854775807 := by unfold maxLen at hcm; omega
  rw [← hn] at hl ⊢
  clear hL hcm
  obtain ⟨i0, hi, hz0, hz1, hz2⟩ := info_parts Try.infoH
  have HI := Lib.hid (And.intro hi (And.intro hz0 (And.intro hz1 hz2)))
  have hmap0 := Lib.hid (ins_map l ⟨fl, fr, [], none, 0⟩)
  dsimp only [Ho.d] at hmap0
  have HOI := Lib.hid hO.2
  have HLW := Lib.hid (fun (i : Nat) h1 h2 h3 => @lowH_of l fl i h1 h2 h3)
  have HN := Lib.hid hn
  have hbx : Below w.heap.size w (w.alloc (.cells #[.int .i64 fl, .int .i64 fr, .slice none 0 0] 45)) := (Below.refl _ _).alloc (Nat.le_refl _) _
  have HRX := Lib.hid (fun W (h : Below (w.heap.size + 1) (w.alloc (.cells #[.int .i64 fl, .int .i64 fr, .slice none 0 0] 45)) W) => (Row.new w [.int .i64 fl, .int .i64 fr, .slice none 0 0] 45).below h (by omega))
  have HBX := Lib.hid (fun W (h : Below (w.heap.size + 1) (w.alloc (.cells #[.int .i64 fl, .int .i64 fr, .slice none 0 0] 45)) W) => (show Below w.heap.size w W ∧ w.heap.size < W.heap.size from ⟨hbx.trans (h.mono (by omega)), by have := h.size; simp at this; omega⟩))
  clear hi hz0 hz1 hz2 hO hn hbx
  have HFIN : Hid (∀ (k : Nat) (W0 W : World) v', k ≤ n → w.heap.size < W0.heap.size → Below w.heap.size w W → W.ownsRow W0.heap.size 45 3 v' (k + 1 + (n - k)) ((l.take k).flatMap Ho.row ++ [.int .i64 fl, .int .i64 fr, .slice none 0 0] ++ (l.drop k).flatMap Ho.row) → OutH W base v' (l.take k ++ (⟨fl, fr, [], none, 0⟩ : Ho) :: l.drop k)) := Lib.hid (fun k W0 W v' hk hwn hbW ho => by
    refine ⟨?_, fun h hh => ?_⟩
    · have e : (l.take k ++ (⟨fl, fr, [], none, 0⟩ : Ho) :: l.drop k).length = k + 1 + (n - k) := by
        rw [List.length_append, List.length_cons, List.length_take, List.length_drop, ← HN.out]; omega
      rw [e, List.flatMap_append, List.flatMap_cons, ← List.append_assoc]
      exact own_base ho (by omega)
    · rcases mem_low hh with rfl | hh
      · exact nil_own _ _ _ _
      · exact (HOI.out h hh).below hbW (Nat.le_refl _))
  go_enter Try.func40, Try.ntmps40
  go_wp2_with fail
  go_loopw [5] (fun i wr => ∃ (k : Nat), k ≤ n ∧ i = .int .i64 k ∧ Below (w.heap.size + 1) (w.alloc (.cells #[.int .i64 fl, .int .i64 fr, .slice none 0 0] 45)) wr ∧ Hid (∀ (j : Nat) (x : Ho), j < k → l[j]? = some x → x.fl < fl)) (fun i _ => n - (intOf i).toNat)
  case atStart => exact ⟨0, Nat.zero_le _, rfl, Below.refl _ _, Lib.hid (fun j x hj => by omega)⟩
  case round =>
    obtain ⟨k, hk, rfl, hb, hst⟩ := hrel
    have rx := HRX.out _ hb
    unfold Row at rx
    by_cases hlt : k < n
    · obtain ⟨a, ha⟩ := get_of_lt (l := l) (k := k) (by rw [← HN.out]; exact hlt)
      obtain ⟨b, off, hab, hbB, hcs⟩ := (HL.out _ (HBX.out _ hb).1).at_ ha
      obtain ⟨rfl, rfl⟩ : g = b ∧ 0 = off := by simpa using hab
      have c0 := hcs _ a ha 0 _ rfl
      simp only [Nat.add_zero, Nat.zero_add] at c0
      by_cases hlow : a.fl < fl
      · have hnx : Hid (∀ (j : Nat) (x : Ho), j < k + 1 → l[j]? = some x → x.fl < fl) := Lib.hid (fun j x hj hjx => by
          by_cases e : j = k
          · subst e; rw [ha] at hjx; injection hjx with hjx; rw [← hjx]; exact hlow
          · exact hst.out j x (by omega) hjx)
        clear hcs ha hst hab
        go_wp2_with fail
        go_quiet (fail)
        go_wp2_with fail
        go_roundw
        case rel => exact ⟨k + 1, by omega, by go_num, below_drewN hb _, hnx⟩
        case measure => simp [intOf]; omega
      · have hlow2 : decide (a.fl < fl) = false := decide_eq_false hlow
        have Ha := Lib.hid ha
        have hTk : lowH l fl = k := by
          refine HLW.out k (by rw [← HN.out]; exact hk) hst.out (fun a ha => ?_)
          rw [Ha.out] at ha; injection ha with ha; rw [← ha]; omega
        have hmap : Hid ((l.take k ++ (⟨fl, fr, [], none, 0⟩ : Ho) :: l.drop k).map Ho.d = ins (l.map Ho.d) ⟨fl, fr, []⟩) := Lib.hid (by have := hmap0.out; rw [hTk] at this; exact this)
        clear hTk hst hmap0
        have HF1 : Hid (((l.take k).flatMap Ho.row).length = k * 3) := Lib.hid (by rw [flat_len (f := Ho.row) Ho.row_len, List.length_take, ← HN.out, Nat.min_eq_left hk])
        have HF2 : Hid (((l.drop k).flatMap Ho.row).length = (n - k) * 3) := Lib.hid (by rw [flat_len (f := Ho.row) Ho.row_len, List.length_drop, ← HN.out])
        have hkc : k ≤ c := by omega
        obtain ⟨AD, hAD, hADc⟩ : ∃ AD : Addr, (if c = k then some (⟨g, 0, none⟩ : Addr) else some ⟨g, k * 3, none⟩) = some AD ∧ Hid (∀ W, Below w.heap.size w W → ∀ j u, ((l.drop k).flatMap Ho.row)[j]? = some u → W.cell? (AD.add j) = some u) := by
          have hcell : ∀ W, Below w.heap.size w W → ∀ j u, (l.flatMap Ho.row)[j]? = some u → W.cell? ⟨g, j, none⟩ = some u := fun W hW j u hu => by
            have := Lies.news (f := Ho.row) Ho.row_len (by decide) (HL.out W hW) j u hu
            rwa [add_off] at this
          by_cases h : c = k
          · refine ⟨⟨g, 0, none⟩, by simp [h], Lib.hid fun W hW j u hu => ?_⟩
            rw [List.drop_of_length_le (by rw [← HN.out]; omega)] at hu
            simp at hu
          · refine ⟨⟨g, k * 3, none⟩, by simp [h], Lib.hid fun W hW j u hu => ?_⟩
            rw [add_any]
            refine hcell W hW _ u ?_
            rw [← flat_drop (f := Ho.row) Ho.row_len l k, List.getElem?_drop] at hu
            exact hu
        have HC1 : Hid (∀ W, Below w.heap.size w W → ∀ ad, (some ⟨g, 0, none⟩ : Option Addr) = some ad → ∀ j u, ((l.take k).flatMap Ho.row)[j]? = some u → W.cell? (ad.add j) = some u) := Lib.hid (fun W hW ad e j u hu => by
          cases e
          refine Lies.news (f := Ho.row) Ho.row_len (by decide) (HL.out W hW) j u ?_
          rw [← flat_take (f := Ho.row) Ho.row_len l k, List.getElem?_take] at hu
          split at hu
          · exact hu
          · cases hu)
        have HC1n : Hid ((some ⟨g, 0, none⟩ : Option Addr) = none → k = 0) := Lib.hid (fun h => by cases h)
        have HC2n : Hid ((some AD : Option Addr) = none → n - k = 0) := Lib.hid (fun h => by cases h)
        have HC2 : Hid (∀ W, Below w.heap.size w W → ∀ ad, (some AD : Option Addr) = some ad → ∀ j u, ((l.drop k).flatMap Ho.row)[j]? = some u → W.cell? (ad.add j) = some u) := Lib.hid (fun W hW ad e j u hu => by
          cases e
          exact hADc.out W hW j u hu)
        clear hcs ha hab hlow
        go_wp2_with fail
        go_quiet (fail)
        clear c0 hlow2
        obtain rfl : (⟨g, k * 3, none⟩ : Addr) = AD := by simpa [show ¬ c = k by omega] using hAD
        clear hAD
        have hbq := below_drewN hb nq
        generalize wr.drewN nq = w0 at *
        have rx0 := HRX.out _ hbq
        obtain ⟨hB0, hwn⟩ := HBX.out _ hbq
        obtain ⟨M, hM⟩ : ∃ M, M = w0.heap.size := ⟨_, rfl⟩
        have HMl : Hid (M ≤ w0.heap.size) := Lib.hid (by rw [hM]; exact Nat.le_refl _)
        have hMw : w.heap.size < M := by rw [hM]; exact hwn
        have HBW : Hid (∀ W, Below M w0 W → Below w.heap.size w W) := Lib.hid (fun W h => hB0.trans (h.mono (Nat.le_of_lt hMw)))
        have HEND : Hid (∀ W v', W.ownsRow M 45 3 v' (k + 1 + (n - k)) ((l.take k).flatMap Ho.row ++ [.int .i64 fl, .int .i64 fr, .slice none 0 0] ++ (l.drop k).flatMap Ho.row) → Below M w0 W → Below w.heap.size w W ∧ OutH W base v' (l.take k ++ (⟨fl, fr, [], none, 0⟩ : Ho) :: l.drop k)) := Lib.hid (fun W v' ho h => ⟨HBW.out W h, HFIN.out k w0 W v' hk hwn (HBW.out W h) (by rw [← hM]; exact ho)⟩)
        have xx : ∀ (x : ExtW M w0.drew) (i : Nat), x.val.cell? ⟨w.heap.size, i, none⟩ = _ := (Row.drew rx0).ext hMw
        clear rx rx0 hb hbq hwn hM hB0
        go_wp2_with fail
        refine wp_region_rough (M) 13 [] #[false, false, false, false, false, false, false, false, false, false, false, false, false] (by kernel_rfl) rfl rfl ?_
        generalize hwd : w0.drew = wd at xx ⊢
        have hbd : Below M w0 wd := by rw [← hwd]; exact (Below.refl _ _).drew
        have HMd : Hid (M ≤ wd.heap.size) := Lib.hid (by rw [← hwd]; exact HMl.out)
        clear hwd
        refine anyR_take0 1 _ (nthS (nth0)) rfl (by kernel_rfl) (by kernel_rfl) (by kernel_rfl) (l' := #[false, true, false, false, false, false, false, false, false, false, false, false, false]) rfl rfl ?_; intro K hK; go_big_quiet_op; go_big_quiet_on
        refine anyR_take0 2 _ (nthS (nthS (nth0))) rfl (by kernel_rfl) (by kernel_rfl) (by kernel_rfl) (l' := #[false, true, true, false, false, false, false, false, false, false, false, false, false]) rfl rfl ?_; intro K hK; go_big_quiet_op; go_big_quiet_on
        refine anyR_take0 3 _ (nthS (nthS (nthS (nth0)))) rfl (by kernel_rfl) (by kernel_rfl) (by kernel_rfl) (l' := #[false, true, true, true, false, false, false, false, false, false, false, false, false]) rfl rfl ?_; intro K hK; go_big_quiet_op; go_big_quiet_on
        refine anyR_take 5 _ (nthS (nthS (nthS (nthS (nthS (nth0)))))) rfl (by kernel_rfl) (by kernel_rfl) (by kernel_rfl) (by kernel_rfl) (l' := #[false, true, true, true, false, true, false, false, false, false, false, false, false]) rfl rfl ?_; intro K hK; go_big_quiet_op; go_big_quiet_on
        refine anyR_take0 8 _ (nthS (nthS (nthS (nthS (nthS (nthS (nthS (nthS (nth0))))))))) rfl (by kernel_rfl) (by kernel_rfl) (by kernel_rfl) (l' := #[false, true, true, true, false, true, false, false, true, false, false, false, false]) rfl rfl ?_; intro K hK; go_big_quiet_op; go_big_quiet_on
        refine anyR_take0 9 _ (nthS (nthS (nthS (nthS (nthS (nthS (nthS (nthS (nthS (nth0)))))))))) rfl (by kernel_rfl) (by kernel_rfl) (by kernel_rfl) (l' := #[false, true, true, true, false, true, false, false, true, true, false, false, false]) rfl rfl ?_; intro K hK; go_big_quiet_op; go_big_quiet_on
        refine anyR_take0 10 _ (nthS (nthS (nthS (nthS (nthS (nthS (nthS (nthS (nthS (nthS (nth0))))))))))) rfl (by kernel_rfl) (by kernel_rfl) (by kernel_rfl) (l' := #[false, true, true, true, false, true, false, false, true, true, true, false, false]) rfl rfl ?_; intro K hK; go_big_quiet_op; go_big_quiet_on
        refine anyR_two 0 6 _ _ (nth0) (nthS (nthS (nthS (nthS (nthS (nthS (nth0))))))) (by kernel_rfl) (l1 := #[true, true, true, true, false, true, false, false, true, true, true, false, false]) (l2 := #[false, true, true, true, false, true, true, false, true, true, true, false, false]) rfl rfl ?_ ?_
        · go_wp2_with fail
          generalize hW0 : World.alloc _ _ = W0
          have hb0 : Below M w0 W0 := by rw [← hW0]; exact hbd.alloc HMd.out _
          have ho0 : W0.ownsRow M 45 3 (.slice (some ⟨wd.heap.size, 0, none⟩) 0 0) 0 [] := by rw [← hW0]; exact ⟨rfl, .inr ⟨wd.heap.size, 0, #[], rfl, HMd.out, heap_alloc_new wd _, Nat.le_refl _, by unfold maxLen; omega, rfl, rfl⟩⟩
          have hz0 : M ≤ W0.heap.size := Nat.le_trans HMl.out hb0.size
          have hbw0 : Below M wd W0 := by rw [← hW0]; exact (Below.refl _ _).alloc HMd.out _
          clear hW0
          refine OneR_mk (hbw0) ?_
          refine anyR_two 4 6 _ _ (nthS (nthS (nthS (nthS (nth0))))) (nthS (nthS (nthS (nthS (nthS (nthS (nth0))))))) (by kernel_rfl) (l1 := #[true, true, true, true, true, true, false, false, true, true, true, false, false]) (l2 := #[true, true, true, true, false, true, true, false, true, true, true, false, false]) rfl rfl ?_ ?_
          · go_wp2_with (at_builtin; refine wpList_append_src2 _ rfl (.tmp 22) (.tmp 25) 23 rfl M 45 i0 (.agg #[.int .i64 0, .int .i64 0, .slice none 0 0]) 3 40 Try.underlying23 HI.out.1 HI.out.2.1 HI.out.2.2.1 HI.out.2.2.2 rfl (by decide) (.slice (some ⟨wd.heap.size, 0, none⟩) 0 0) 0 [] rfl ho0 (some ⟨g, 0, none⟩) k c ((l.take k).flatMap Ho.row) rfl HF1.out HC1n.out (fun ad e => HC1.out _ (HBW.out _ hb0) ad e) (flatH_one _) ?f2 ?f3 ?f4 ?_)
            case f2 => unfold maxLen; omega
            case f3 => omega
            case f4 => exact hz0
            intro v4 W4 ho4 hg4
            have hb4 : Below M w0 W4 := hb0.grown hg4 hz0 (by intro g hg; exact (ho0.lt g hg).1)
            have hz4 : M ≤ W4.heap.size := Nat.le_trans HMl.out hb4.size
            try simp only [List.nil_append, Nat.zero_add] at ho4
            have hbw4 : Below M W0 W4 := (Below.refl _ _).grown hg4 hz0 (by intro g hg; exact (ho0.lt g hg).1)
            obtain ⟨A4, c4, hv4⟩ := own_form2 ho4
            subst hv4
            clear hg4
            go_wp2_with fail
            refine OneR_mk (hbw4) ?_
            refine anyR_one 6 _ (nthS (nthS (nthS (nthS (nthS (nthS (nth0))))))) (by kernel_rfl) (l' := #[true, true, true, true, true, true, true, false, true, true, true, false, false]) rfl ?_
            go_wp2_with fail
            generalize hW6 : World.alloc _ _ = W6
            have hb6 : Below M w0 W6 := by rw [← hW6]; exact hb4.alloc hz4 _
            obtain ⟨g6, hg6⟩ : ∃ g6, g6 = W4.heap.size := ⟨_, rfl⟩
            rw [← hg6]
            have hx6 : Blk W6 g6 45 [.int .i64 fl, .int .i64 fr, .slice none 0 0] := by rw [← hW6]; exact Blk.new2 _ [.int .i64 fl, .int .i64 fr, .slice none 0 0] hg6
            have hz6 : M ≤ W6.heap.size := Nat.le_trans HMl.out hb6.size
            have ho6 := ho4.alloc (.cells [.int .i64 fl, .int .i64 fr, .slice none 0 0].toArray 45)
            rw [show W4.alloc (.cells [.int .i64 fl, .int .i64 fr, .slice none 0 0].toArray 45) = W6 from hW6] at ho6
            have hbw6 : Below M W4 W6 := by rw [← hW6]; exact (Below.refl _ _).alloc hz4 _
            clear hW6 hg6
            refine OneR_mk (hbw6) ?_
            refine anyR_one 7 _ (nthS (nthS (nthS (nthS (nthS (nthS (nthS (nth0)))))))) (by kernel_rfl) (l' := #[true, true, true, true, true, true, true, true, true, true, true, false, false]) rfl ?_
            go_wp2_with (at_builtin; refine wpList_append_src2 _ rfl (.tmp 26) (.tmp 28) 23 rfl M 45 i0 (.agg #[.int .i64 0, .int .i64 0, .slice none 0 0]) 3 40 Try.underlying23 HI.out.1 HI.out.2.1 HI.out.2.2.1 HI.out.2.2.2 rfl (by decide) (.slice A4 k c4) k ((l.take k).flatMap Ho.row) rfl ho6 (some ⟨g6, 0, none⟩) 1 1 [.int .i64 fl, .int .i64 fr, .slice none 0 0] rfl rfl (by intro h; cases h) (fun ad e => by cases e; exact hx6.news2) (by intro u hu; simp only [List.mem_cons, List.not_mem_nil, or_false] at hu; rcases hu with rfl | rfl | rfl <;> rfl) ?f2 ?f3 ?f4 ?_)
            case f2 => unfold maxLen; omega
            case f3 => omega
            case f4 => exact hz6
            intro v7 W7 ho7 hg7
            have hb7 : Below M w0 W7 := hb6.grown hg7 hz6 (by intro g hg; exact (ho6.lt g hg).1)
            have hz7 : M ≤ W7.heap.size := Nat.le_trans HMl.out hb7.size
            have hbw7 : Below M W6 W7 := (Below.refl _ _).grown hg7 hz6 (by intro g hg; exact (ho6.lt g hg).1)
            obtain ⟨A7, c7, hv7⟩ := own_form2 ho7
            subst hv7
            clear hg7
            go_wp2_with fail
            refine OneR_mk (hbw7) ?_
            refine anyR_one 11 _ (nthS (nthS (nthS (nthS (nthS (nthS (nthS (nthS (nthS (nthS (nthS (nth0)))))))))))) (by kernel_rfl) (l' := #[true, true, true, true, true, true, true, true, true, true, true, true, false]) rfl ?_
            go_wp2_with (at_builtin; refine wpList_append_src2 _ rfl (.tmp 29) (.tmp 32) 23 rfl M 45 i0 (.agg #[.int .i64 0, .int .i64 0, .slice none 0 0]) 3 40 Try.underlying23 HI.out.1 HI.out.2.1 HI.out.2.2.1 HI.out.2.2.2 rfl (by decide) (.slice A7 (k + 1) c7) (k + 1) ((l.take k).flatMap Ho.row ++ [.int .i64 fl, .int .i64 fr, .slice none 0 0]) rfl ho7 (some ⟨g, k * 3, none⟩) (n - k) (c - k) ((l.drop k).flatMap Ho.row) rfl HF2.out HC2n.out (fun ad e => HC2.out _ (HBW.out _ hb7) ad e) (flatH_one _) ?f2 ?f3 ?f4 ?_)
            case f2 => unfold maxLen; omega
            case f3 => omega
            case f4 => exact hz7
            intro v9 W9 ho9 hg9
            have hb9 : Below M w0 W9 := hb7.grown hg9 hz7 (by intro g hg; exact (ho7.lt g hg).1)
            have hbw9 : Below M W7 W9 := (Below.refl _ _).grown hg9 hz7 (by intro g hg; exact (ho7.lt g hg).1)
            obtain ⟨A9, c9, hv9⟩ := own_form2 ho9
            subst hv9
            clear hg9
            go_wp2_with fail
            refine OneR_mk (hbw9) ?_
            refine anyR_take0 12 _ (nthS (nthS (nthS (nthS (nthS (nthS (nthS (nthS (nthS (nthS (nthS (nthS (nth0))))))))))))) rfl (by kernel_rfl) (by kernel_rfl) (by kernel_rfl) (l' := #[true, true, true, true, true, true, true, true, true, true, true, true, true]) rfl rfl ?_; intro K hK; go_big_quiet_op; go_big_quiet_on
            refine anyR_end (by kernel_rfl) ?_
            have HO9 := Lib.hid (HEND.out W9 (.slice A9 (k + 1 + (n - k)) c9) (by simpa using ho9) hb9)
            clear ho9
            go_wp2_with fail
            go_ret
            exact ⟨HO9.out.1, _, _, rfl, HO9.out.2, hmap.out⟩
          · go_wp2_with fail
            generalize hW6 : World.alloc _ _ = W6
            have hb6 : Below M w0 W6 := by rw [← hW6]; exact hb0.alloc hz0 _
            obtain ⟨g6, hg6⟩ : ∃ g6, g6 = W0.heap.size := ⟨_, rfl⟩
            rw [← hg6]
            have hx6 : Blk W6 g6 45 [.int .i64 fl, .int .i64 fr, .slice none 0 0] := by rw [← hW6]; exact Blk.new2 _ [.int .i64 fl, .int .i64 fr, .slice none 0 0] hg6
            have hz6 : M ≤ W6.heap.size := Nat.le_trans HMl.out hb6.size
            have ho6 := ho0.alloc (.cells [.int .i64 fl, .int .i64 fr, .slice none 0 0].toArray 45)
            rw [show W0.alloc (.cells [.int .i64 fl, .int .i64 fr, .slice none 0 0].toArray 45) = W6 from hW6] at ho6
            have hn0 : (some g6 : Option Nat) ≠ (Value.slice (some ⟨wd.heap.size, 0, none⟩) 0 0).ownBlock := by rw [hg6]; exact own_new ho0 (Nat.le_refl _)
            have hbw6 : Below M W0 W6 := by rw [← hW6]; exact (Below.refl _ _).alloc hz0 _
            clear hW6 hg6
            refine OneR_mk (hbw6) ?_
            refine anyR_one 4 _ (nthS (nthS (nthS (nthS (nth0))))) (by kernel_rfl) (l' := #[true, true, true, true, true, true, true, false, true, true, true, false, false]) rfl ?_
            go_wp2_with (at_builtin; refine wpList_append_src2 _ rfl (.tmp 22) (.tmp 25) 23 rfl M 45 i0 (.agg #[.int .i64 0, .int .i64 0, .slice none 0 0]) 3 40 Try.underlying23 HI.out.1 HI.out.2.1 HI.out.2.2.1 HI.out.2.2.2 rfl (by decide) (.slice (some ⟨wd.heap.size, 0, none⟩) 0 0) 0 [] rfl ho6 (some ⟨g, 0, none⟩) k c ((l.take k).flatMap Ho.row) rfl HF1.out HC1n.out (fun ad e => HC1.out _ (HBW.out _ hb6) ad e) (flatH_one _) ?f2 ?f3 ?f4 ?_)
            case f2 => unfold maxLen; omega
            case f3 => omega
            case f4 => exact hz6
            intro v4 W4 ho4 hg4
            have hb4 : Below M w0 W4 := hb6.grown hg4 hz6 (by intro g hg; exact (ho6.lt g hg).1)
            have hz4 : M ≤ W4.heap.size := Nat.le_trans HMl.out hb4.size
            have hx4 : Blk W4 g6 45 [.int .i64 fl, .int .i64 fr, .slice none 0 0] := (hg4.block g6 hx6.lt hn0).trans hx6
            try simp only [List.nil_append, Nat.zero_add] at ho4
            have hbw4 : Below M W6 W4 := (Below.refl _ _).grown hg4 hz6 (by intro g hg; exact (ho6.lt g hg).1)
            obtain ⟨A4, c4, hv4⟩ := own_form2 ho4
            subst hv4
            clear hg4
            go_wp2_with fail
            refine OneR_mk (hbw4) ?_
            refine anyR_one 7 _ (nthS (nthS (nthS (nthS (nthS (nthS (nthS (nth0)))))))) (by kernel_rfl) (l' := #[true, true, true, true, true, true, true, true, true, true, true, false, false]) rfl ?_
            go_wp2_with (at_builtin; refine wpList_append_src2 _ rfl (.tmp 26) (.tmp 28) 23 rfl M 45 i0 (.agg #[.int .i64 0, .int .i64 0, .slice none 0 0]) 3 40 Try.underlying23 HI.out.1 HI.out.2.1 HI.out.2.2.1 HI.out.2.2.2 rfl (by decide) (.slice A4 k c4) k ((l.take k).flatMap Ho.row) rfl ho4 (some ⟨g6, 0, none⟩) 1 1 [.int .i64 fl, .int .i64 fr, .slice none 0 0] rfl rfl (by intro h; cases h) (fun ad e => by cases e; exact hx4.news2) (by intro u hu; simp only [List.mem_cons, List.not_mem_nil, or_false] at hu; rcases hu with rfl | rfl | rfl <;> rfl) ?f2 ?f3 ?f4 ?_)
            case f2 => unfold maxLen; omega
            case f3 => omega
            case f4 => exact hz4
            intro v7 W7 ho7 hg7
            have hb7 : Below M w0 W7 := hb4.grown hg7 hz4 (by intro g hg; exact (ho4.lt g hg).1)
            have hz7 : M ≤ W7.heap.size := Nat.le_trans HMl.out hb7.size
            have hbw7 : Below M W4 W7 := (Below.refl _ _).grown hg7 hz4 (by intro g hg; exact (ho4.lt g hg).1)
            obtain ⟨A7, c7, hv7⟩ := own_form2 ho7
            subst hv7
            clear hg7
            go_wp2_with fail
            refine OneR_mk (hbw7) ?_
            refine anyR_one 11 _ (nthS (nthS (nthS (nthS (nthS (nthS (nthS (nthS (nthS (nthS (nthS (nth0)))))))))))) (by kernel_rfl) (l' := #[true, true, true, true, true, true, true, true, true, true, true, true, false]) rfl ?_
            go_wp2_with (at_builtin; refine wpList_append_src2 _ rfl (.tmp 29) (.tmp 32) 23 rfl M 45 i0 (.agg #[.int .i64 0, .int .i64 0, .slice none 0 0]) 3 40 Try.underlying23 HI.out.1 HI.out.2.1 HI.out.2.2.1 HI.out.2.2.2 rfl (by decide) (.slice A7 (k + 1) c7) (k + 1) ((l.take k).flatMap Ho.row ++ [.int .i64 fl, .int .i64 fr, .slice none 0 0]) rfl ho7 (some ⟨g, k * 3, none⟩) (n - k) (c - k) ((l.drop k).flatMap Ho.row) rfl HF2.out HC2n.out (fun ad e => HC2.out _ (HBW.out _ hb7) ad e) (flatH_one _) ?f2 ?f3 ?f4 ?_)
            case f2 => unfold maxLen; omega
            case f3 => omega
            case f4 => exact hz7
            intro v9 W9 ho9 hg9
            have hb9 : Below M w0 W9 := hb7.grown hg9 hz7 (by intro g hg; exact (ho7.lt g hg).1)
            have hbw9 : Below M W7 W9 := (Below.refl _ _).grown hg9 hz7 (by intro g hg; exact (ho7.lt g hg).1)
            obtain ⟨A9, c9, hv9⟩ := own_form2 ho9
            subst hv9
            clear hg9
            go_wp2_with fail
            refine OneR_mk (hbw9) ?_
            refine anyR_take0 12 _ (nthS (nthS (nthS (nthS (nthS (nthS (nthS (nthS (nthS (nthS (nthS (nthS (nth0))))))))))))) rfl (by kernel_rfl) (by kernel_rfl) (by kernel_rfl) (l' := #[true, true, true, true, true, true, true, true, true, true, true, true, true]) rfl rfl ?_; intro K hK; go_big_quiet_op; go_big_quiet_on
            refine anyR_end (by kernel_rfl) ?_
            have HO9 := Lib.hid (HEND.out W9 (.slice A9 (k + 1 + (n - k)) c9) (by simpa using ho9) hb9)
            clear ho9
            go_wp2_with fail
            go_ret
            exact ⟨HO9.out.1, _, _, rfl, HO9.out.2, hmap.out⟩
        · go_wp2_with fail
          generalize hW6 : World.alloc _ _ = W6
          have hb6 : Below M w0 W6 := by rw [← hW6]; exact hbd.alloc HMd.out _
          obtain ⟨g6, hg6⟩ : ∃ g6, g6 = wd.heap.size := ⟨_, rfl⟩
          rw [← hg6]
          have hx6 : Blk W6 g6 45 [.int .i64 fl, .int .i64 fr, .slice none 0 0] := by rw [← hW6]; exact Blk.new2 _ [.int .i64 fl, .int .i64 fr, .slice none 0 0] hg6
          have hz6 : M ≤ W6.heap.size := Nat.le_trans HMl.out hb6.size
          have hbw6 : Below M wd W6 := by rw [← hW6]; exact (Below.refl _ _).alloc HMd.out _
          clear hW6 hg6
          refine OneR_mk (hbw6) ?_
          refine anyR_one 0 _ (nth0) (by kernel_rfl) (l' := #[true, true, true, true, false, true, true, false, true, true, true, false, false]) rfl ?_
          go_wp2_with fail
          generalize hW0 : World.alloc _ _ = W0
          have hb0 : Below M w0 W0 := by rw [← hW0]; exact hb6.alloc hz6 _
          have ho0 : W0.ownsRow M 45 3 (.slice (some ⟨W6.heap.size, 0, none⟩) 0 0) 0 [] := by rw [← hW0]; exact ⟨rfl, .inr ⟨W6.heap.size, 0, #[], rfl, hz6, heap_alloc_new W6 _, Nat.le_refl _, by unfold maxLen; omega, rfl, rfl⟩⟩
          have hz0 : M ≤ W0.heap.size := Nat.le_trans HMl.out hb0.size
          have hx0 : Blk W0 g6 45 [.int .i64 fl, .int .i64 fr, .slice none 0 0] := by rw [← hW0]; exact hx6.alloc _
          have hn0 : (some g6 : Option Nat) ≠ (Value.slice (some ⟨W6.heap.size, 0, none⟩) 0 0).ownBlock := by intro e; simp only [Value.ownBlock, Option.some.injEq] at e; have := hx6.lt; omega
          have hbw0 : Below M W6 W0 := by rw [← hW0]; exact (Below.refl _ _).alloc hz6 _
          clear hW0
          refine OneR_mk (hbw0) ?_
          refine anyR_one 4 _ (nthS (nthS (nthS (nthS (nth0))))) (by kernel_rfl) (l' := #[true, true, true, true, true, true, true, false, true, true, true, false, false]) rfl ?_
          go_wp2_with (at_builtin; refine wpList_append_src2 _ rfl (.tmp 22) (.tmp 25) 23 rfl M 45 i0 (.agg #[.int .i64 0, .int .i64 0, .slice none 0 0]) 3 40 Try.underlying23 HI.out.1 HI.out.2.1 HI.out.2.2.1 HI.out.2.2.2 rfl (by decide) (.slice (some ⟨W6.heap.size, 0, none⟩) 0 0) 0 [] rfl ho0 (some ⟨g, 0, none⟩) k c ((l.take k).flatMap Ho.row) rfl HF1.out HC1n.out (fun ad e => HC1.out _ (HBW.out _ hb0) ad e) (flatH_one _) ?f2 ?f3 ?f4 ?_)
          case f2 => unfold maxLen; omega
          case f3 => omega
          case f4 => exact hz0
          intro v4 W4 ho4 hg4
          have hb4 : Below M w0 W4 := hb0.grown hg4 hz0 (by intro g hg; exact (ho0.lt g hg).1)
          have hz4 : M ≤ W4.heap.size := Nat.le_trans HMl.out hb4.size
          have hx4 : Blk W4 g6 45 [.int .i64 fl, .int .i64 fr, .slice none 0 0] := (hg4.block g6 hx0.lt hn0).trans hx0
          try simp only [List.nil_append, Nat.zero_add] at ho4
          have hbw4 : Below M W0 W4 := (Below.refl _ _).grown hg4 hz0 (by intro g hg; exact (ho0.lt g hg).1)
          obtain ⟨A4, c4, hv4⟩ := own_form2 ho4
          subst hv4
          clear hg4
          go_wp2_with fail
          refine OneR_mk (hbw4) ?_
          refine anyR_one 7 _ (nthS (nthS (nthS (nthS (nthS (nthS (nthS (nth0)))))))) (by kernel_rfl) (l' := #[true, true, true, true, true, true, true, true, true, true, true, false, false]) rfl ?_
          go_wp2_with (at_builtin; refine wpList_append_src2 _ rfl (.tmp 26) (.tmp 28) 23 rfl M 45 i0 (.agg #[.int .i64 0, .int .i64 0, .slice none 0 0]) 3 40 Try.underlying23 HI.out.1 HI.out.2.1 HI.out.2.2.1 HI.out.2.2.2 rfl (by decide) (.slice A4 k c4) k ((l.take k).flatMap Ho.row) rfl ho4 (some ⟨g6, 0, none⟩) 1 1 [.int .i64 fl, .int .i64 fr, .slice none 0 0] rfl rfl (by intro h; cases h) (fun ad e => by cases e; exact hx4.news2) (by intro u hu; simp only [List.mem_cons, List.not_mem_nil, or_false] at hu; rcases hu with rfl | rfl | rfl <;> rfl) ?f2 ?f3 ?f4 ?_)
          case f2 => unfold maxLen; omega
          case f3 => omega
          case f4 => exact hz4
          intro v7 W7 ho7 hg7
          have hb7 : Below M w0 W7 := hb4.grown hg7 hz4 (by intro g hg; exact (ho4.lt g hg).1)
          have hz7 : M ≤ W7.heap.size := Nat.le_trans HMl.out hb7.size
          have hbw7 : Below M W4 W7 := (Below.refl _ _).grown hg7 hz4 (by intro g hg; exact (ho4.lt g hg).1)
          obtain ⟨A7, c7, hv7⟩ := own_form2 ho7
          subst hv7
          clear hg7
          go_wp2_with fail
          refine OneR_mk (hbw7) ?_
          refine anyR_one 11 _ (nthS (nthS (nthS (nthS (nthS (nthS (nthS (nthS (nthS (nthS (nthS (nth0)))))))))))) (by kernel_rfl) (l' := #[true, true, true, true, true, true, true, true, true, true, true, true, false]) rfl ?_
          go_wp2_with (at_builtin; refine wpList_append_src2 _ rfl (.tmp 29) (.tmp 32) 23 rfl M 45 i0 (.agg #[.int .i64 0, .int .i64 0, .slice none 0 0]) 3 40 Try.underlying23 HI.out.1 HI.out.2.1 HI.out.2.2.1 HI.out.2.2.2 rfl (by decide) (.slice A7 (k + 1) c7) (k + 1) ((l.take k).flatMap Ho.row ++ [.int .i64 fl, .int .i64 fr, .slice none 0 0]) rfl ho7 (some ⟨g, k * 3, none⟩) (n - k) (c - k) ((l.drop k).flatMap Ho.row) rfl HF2.out HC2n.out (fun ad e => HC2.out _ (HBW.out _ hb7) ad e) (flatH_one _) ?f2 ?f3 ?f4 ?_)
          case f2 => unfold maxLen; omega
          case f3 => omega
          case f4 => exact hz7
          intro v9 W9 ho9 hg9
          have hb9 : Below M w0 W9 := hb7.grown hg9 hz7 (by intro g hg; exact (ho7.lt g hg).1)
          have hbw9 : Below M W7 W9 := (Below.refl _ _).grown hg9 hz7 (by intro g hg; exact (ho7.lt g hg).1)
          obtain ⟨A9, c9, hv9⟩ := own_form2 ho9
          subst hv9
          clear hg9
          go_wp2_with fail
          refine OneR_mk (hbw9) ?_
          refine anyR_take0 12 _ (nthS (nthS (nthS (nthS (nthS (nthS (nthS (nthS (nthS (nthS (nthS (nthS (nth0))))))))))))) rfl (by kernel_rfl) (by kernel_rfl) (by kernel_rfl) (l' := #[true, true, true, true, true, true, true, true, true, true, true, true, true]) rfl rfl ?_; intro K hK; go_big_quiet_op; go_big_quiet_on
          refine anyR_end (by kernel_rfl) ?_
          have HO9 := Lib.hid (HEND.out W9 (.slice A9 (k + 1 + (n - k)) c9) (by simpa using ho9) hb9)
          clear ho9
          go_wp2_with fail
          go_ret
          exact ⟨HO9.out.1, _, _, rfl, HO9.out.2, hmap.out⟩
    · skip
      have hTk : lowH l fl = k := by
        refine HLW.out k (by rw [← HN.out]; exact hk) hst.out (fun a ha => ?_)
        have h9 := (List.getElem?_eq_some_iff.1 ha).1; rw [← HN.out] at h9; omega
      have hmap : Hid ((l.take k ++ (⟨fl, fr, [], none, 0⟩ : Ho) :: l.drop k).map Ho.d = ins (l.map Ho.d) ⟨fl, fr, []⟩) := Lib.hid (by have := hmap0.out; rw [hTk] at this; exact this)
      clear hTk hst hmap0
      have HF1 : Hid (((l.take k).flatMap Ho.row).length = k * 3) := Lib.hid (by rw [flat_len (f := Ho.row) Ho.row_len, List.length_take, ← HN.out, Nat.min_eq_left hk])
      have HF2 : Hid (((l.drop k).flatMap Ho.row).length = (n - k) * 3) := Lib.hid (by rw [flat_len (f := Ho.row) Ho.row_len, List.length_drop, ← HN.out])
      have hkc : k ≤ c := by omega
      obtain ⟨AD, hAD, hADc⟩ : ∃ AD : Addr, (if c = k then some (⟨g, 0, none⟩ : Addr) else some ⟨g, k * 3, none⟩) = some AD ∧ Hid (∀ W, Below w.heap.size w W → ∀ j u, ((l.drop k).flatMap Ho.row)[j]? = some u → W.cell? (AD.add j) = some u) := by
        have hcell : ∀ W, Below w.heap.size w W → ∀ j u, (l.flatMap Ho.row)[j]? = some u → W.cell? ⟨g, j, none⟩ = some u := fun W hW j u hu => by
          have := Lies.news (f := Ho.row) Ho.row_len (by decide) (HL.out W hW) j u hu
          rwa [add_off] at this
        by_cases h : c = k
        · refine ⟨⟨g, 0, none⟩, by simp [h], Lib.hid fun W hW j u hu => ?_⟩
          rw [List.drop_of_length_le (by rw [← HN.out]; omega)] at hu
          simp at hu
        · refine ⟨⟨g, k * 3, none⟩, by simp [h], Lib.hid fun W hW j u hu => ?_⟩
          rw [add_any]
          refine hcell W hW _ u ?_
          rw [← flat_drop (f := Ho.row) Ho.row_len l k, List.getElem?_drop] at hu
          exact hu
      have HC1 : Hid (∀ W, Below w.heap.size w W → ∀ ad, (some ⟨g, 0, none⟩ : Option Addr) = some ad → ∀ j u, ((l.take k).flatMap Ho.row)[j]? = some u → W.cell? (ad.add j) = some u) := Lib.hid (fun W hW ad e j u hu => by
        cases e
        refine Lies.news (f := Ho.row) Ho.row_len (by decide) (HL.out W hW) j u ?_
        rw [← flat_take (f := Ho.row) Ho.row_len l k, List.getElem?_take] at hu
        split at hu
        · exact hu
        · cases hu)
      have HC1n : Hid ((some ⟨g, 0, none⟩ : Option Addr) = none → k = 0) := Lib.hid (fun h => by cases h)
      have HC2n : Hid ((some AD : Option Addr) = none → n - k = 0) := Lib.hid (fun h => by cases h)
      have HC2 : Hid (∀ W, Below w.heap.size w W → ∀ ad, (some AD : Option Addr) = some ad → ∀ j u, ((l.drop k).flatMap Ho.row)[j]? = some u → W.cell? (ad.add j) = some u) := Lib.hid (fun W hW ad e j u hu => by
        cases e
        exact hADc.out W hW j u hu)
      go_wp2_with fail
      go_quiet (fail)
      have hbq := below_drewN hb nq
      generalize wr.drewN nq = w0 at *
      have rx0 := HRX.out _ hbq
      obtain ⟨hB0, hwn⟩ := HBX.out _ hbq
      obtain ⟨M, hM⟩ : ∃ M, M = w0.heap.size := ⟨_, rfl⟩
      have HMl : Hid (M ≤ w0.heap.size) := Lib.hid (by rw [hM]; exact Nat.le_refl _)
      have hMw : w.heap.size < M := by rw [hM]; exact hwn
      have HBW : Hid (∀ W, Below M w0 W → Below w.heap.size w W) := Lib.hid (fun W h => hB0.trans (h.mono (Nat.le_of_lt hMw)))
      have HEND : Hid (∀ W v', W.ownsRow M 45 3 v' (k + 1 + (n - k)) ((l.take k).flatMap Ho.row ++ [.int .i64 fl, .int .i64 fr, .slice none 0 0] ++ (l.drop k).flatMap Ho.row) → Below M w0 W → Below w.heap.size w W ∧ OutH W base v' (l.take k ++ (⟨fl, fr, [], none, 0⟩ : Ho) :: l.drop k)) := Lib.hid (fun W v' ho h => ⟨HBW.out W h, HFIN.out k w0 W v' hk hwn (HBW.out W h) (by rw [← hM]; exact ho)⟩)
      have xx : ∀ (x : ExtW M w0.drew) (i : Nat), x.val.cell? ⟨w.heap.size, i, none⟩ = _ := (Row.drew rx0).ext hMw
      clear rx rx0 hb hbq hwn hM hB0
      go_wp2_with fail
      refine wp_region_rough (M) 13 [] #[false, false, false, false, false, false, false, false, false, false, false, false, false] (by kernel_rfl) rfl rfl ?_
      generalize hwd : w0.drew = wd at xx ⊢
      have hbd : Below M w0 wd := by rw [← hwd]; exact (Below.refl _ _).drew
      have HMd : Hid (M ≤ wd.heap.size) := Lib.hid (by rw [← hwd]; exact HMl.out)
      clear hwd
      refine anyR_take0 1 _ (nthS (nth0)) rfl (by kernel_rfl) (by kernel_rfl) (by kernel_rfl) (l' := #[false, true, false, false, false, false, false, false, false, false, false, false, false]) rfl rfl ?_; intro K hK; go_big_quiet_op; go_big_quiet_on
      refine anyR_take0 2 _ (nthS (nthS (nth0))) rfl (by kernel_rfl) (by kernel_rfl) (by kernel_rfl) (l' := #[false, true, true, false, false, false, false, false, false, false, false, false, false]) rfl rfl ?_; intro K hK; go_big_quiet_op; go_big_quiet_on
      refine anyR_take0 3 _ (nthS (nthS (nthS (nth0)))) rfl (by kernel_rfl) (by kernel_rfl) (by kernel_rfl) (l' := #[false, true, true, true, false, false, false, false, false, false, false, false, false]) rfl rfl ?_; intro K hK; go_big_quiet_op; go_big_quiet_on
      refine anyR_take 5 _ (nthS (nthS (nthS (nthS (nthS (nth0)))))) rfl (by kernel_rfl) (by kernel_rfl) (by kernel_rfl) (by kernel_rfl) (l' := #[false, true, true, true, false, true, false, false, false, false, false, false, false]) rfl rfl ?_; intro K hK; go_big_quiet_op; go_big_quiet_on
      refine anyR_take0 8 _ (nthS (nthS (nthS (nthS (nthS (nthS (nthS (nthS (nth0))))))))) rfl (by kernel_rfl) (by kernel_rfl) (by kernel_rfl) (l' := #[false, true, true, true, false, true, false, false, true, false, false, false, false]) rfl rfl ?_; intro K hK; go_big_quiet_op; go_big_quiet_on
      refine anyR_take0 9 _ (nthS (nthS (nthS (nthS (nthS (nthS (nthS (nthS (nthS (nth0)))))))))) rfl (by kernel_rfl) (by kernel_rfl) (by kernel_rfl) (l' := #[false, true, true, true, false, true, false, false, true, true, false, false, false]) rfl rfl ?_; intro K hK; go_big_quiet_op; go_big_quiet_on
      refine anyR_take0 10 _ (nthS (nthS (nthS (nthS (nthS (nthS (nthS (nthS (nthS (nthS (nth0))))))))))) rfl (by kernel_rfl) (by kernel_rfl) (by kernel_rfl) (l' := #[false, true, true, true, false, true, false, false, true, true, true, false, false]) rfl rfl ?_; intro K hK; go_big_quiet_op; go_big_quiet_on
      refine anyR_two 0 6 _ _ (nth0) (nthS (nthS (nthS (nthS (nthS (nthS (nth0))))))) (by kernel_rfl) (l1 := #[true, true, true, true, false, true, false, false, true, true, true, false, false]) (l2 := #[false, true, true, true, false, true, true, false, true, true, true, false, false]) rfl rfl ?_ ?_
      · go_wp2_with fail
        generalize hW0 : World.alloc _ _ = W0
        have hb0 : Below M w0 W0 := by rw [← hW0]; exact hbd.alloc HMd.out _
        have ho0 : W0.ownsRow M 45 3 (.slice (some ⟨wd.heap.size, 0, none⟩) 0 0) 0 [] := by rw [← hW0]; exact ⟨rfl, .inr ⟨wd.heap.size, 0, #[], rfl, HMd.out, heap_alloc_new wd _, Nat.le_refl _, by unfold maxLen; omega, rfl, rfl⟩⟩
        have hz0 : M ≤ W0.heap.size := Nat.le_trans HMl.out hb0.size
        have hbw0 : Below M wd W0 := by rw [← hW0]; exact (Below.refl _ _).alloc HMd.out _
        clear hW0
        refine OneR_mk (hbw0) ?_
        refine anyR_two 4 6 _ _ (nthS (nthS (nthS (nthS (nth0))))) (nthS (nthS (nthS (nthS (nthS (nthS (nth0))))))) (by kernel_rfl) (l1 := #[true, true, true, true, true, true, false, false, true, true, true, false, false]) (l2 := #[true, true, true, true, false, true, true, false, true, true, true, false, false]) rfl rfl ?_ ?_
        · go_wp2_with (at_builtin; refine wpList_append_src2 _ rfl (.tmp 22) (.tmp 25) 23 rfl M 45 i0 (.agg #[.int .i64 0, .int .i64 0, .slice none 0 0]) 3 40 Try.underlying23 HI.out.1 HI.out.2.1 HI.out.2.2.1 HI.out.2.2.2 rfl (by decide) (.slice (some ⟨wd.heap.size, 0, none⟩) 0 0) 0 [] rfl ho0 (some ⟨g, 0, none⟩) k c ((l.take k).flatMap Ho.row) rfl HF1.out HC1n.out (fun ad e => HC1.out _ (HBW.out _ hb0) ad e) (flatH_one _) ?f2 ?f3 ?f4 ?_)
          case f2 => unfold maxLen; omega
          case f3 => omega
          case f4 => exact hz0
          intro v4 W4 ho4 hg4
          have hb4 : Below M w0 W4 := hb0.grown hg4 hz0 (by intro g hg; exact (ho0.lt g hg).1)
          have hz4 : M ≤ W4.heap.size := Nat.le_trans HMl.out hb4.size
          try simp only [List.nil_append, Nat.zero_add] at ho4
          have hbw4 : Below M W0 W4 := (Below.refl _ _).grown hg4 hz0 (by intro g hg; exact (ho0.lt g hg).1)
          obtain ⟨A4, c4, hv4⟩ := own_form2 ho4
          subst hv4
          clear hg4
          go_wp2_with fail
          refine OneR_mk (hbw4) ?_
          refine anyR_one 6 _ (nthS (nthS (nthS (nthS (nthS (nthS (nth0))))))) (by kernel_rfl) (l' := #[true, true, true, true, true, true, true, false, true, true, true, false, false]) rfl ?_
          go_wp2_with fail
          generalize hW6 : World.alloc _ _ = W6
          have hb6 : Below M w0 W6 := by rw [← hW6]; exact hb4.alloc hz4 _
          obtain ⟨g6, hg6⟩ : ∃ g6, g6 = W4.heap.size := ⟨_, rfl⟩
          rw [← hg6]
          have hx6 : Blk W6 g6 45 [.int .i64 fl, .int .i64 fr, .slice none 0 0] := by rw [← hW6]; exact Blk.new2 _ [.int .i64 fl, .int .i64 fr, .slice none 0 0] hg6
          have hz6 : M ≤ W6.heap.size := Nat.le_trans HMl.out hb6.size
          have ho6 := ho4.alloc (.cells [.int .i64 fl, .int .i64 fr, .slice none 0 0].toArray 45)
          rw [show W4.alloc (.cells [.int .i64 fl, .int .i64 fr, .slice none 0 0].toArray 45) = W6 from hW6] at ho6
          have hbw6 : Below M W4 W6 := by rw [← hW6]; exact (Below.refl _ _).alloc hz4 _
          clear hW6 hg6
          refine OneR_mk (hbw6) ?_
          refine anyR_one 7 _ (nthS (nthS (nthS (nthS (nthS (nthS (nthS (nth0)))))))) (by kernel_rfl) (l' := #[true, true, true, true, true, true, true, true, true, true, true, false, false]) rfl ?_
          go_wp2_with (at_builtin; refine wpList_append_src2 _ rfl (.tmp 26) (.tmp 28) 23 rfl M 45 i0 (.agg #[.int .i64 0, .int .i64 0, .slice none 0 0]) 3 40 Try.underlying23 HI.out.1 HI.out.2.1 HI.out.2.2.1 HI.out.2.2.2 rfl (by decide) (.slice A4 k c4) k ((l.take k).flatMap Ho.row) rfl ho6 (some ⟨g6, 0, none⟩) 1 1 [.int .i64 fl, .int .i64 fr, .slice none 0 0] rfl rfl (by intro h; cases h) (fun ad e => by cases e; exact hx6.news2) (by intro u hu; simp only [List.mem_cons, List.not_mem_nil, or_false] at hu; rcases hu with rfl | rfl | rfl <;> rfl) ?f2 ?f3 ?f4 ?_)
          case f2 => unfold maxLen; omega
          case f3 => omega
          case f4 => exact hz6
          intro v7 W7 ho7 hg7
          have hb7 : Below M w0 W7 := hb6.grown hg7 hz6 (by intro g hg; exact (ho6.lt g hg).1)
          have hz7 : M ≤ W7.heap.size := Nat.le_trans HMl.out hb7.size
          have hbw7 : Below M W6 W7 := (Below.refl _ _).grown hg7 hz6 (by intro g hg; exact (ho6.lt g hg).1)
          obtain ⟨A7, c7, hv7⟩ := own_form2 ho7
          subst hv7
          clear hg7
          go_wp2_with fail
          refine OneR_mk (hbw7) ?_
          refine anyR_one 11 _ (nthS (nthS (nthS (nthS (nthS (nthS (nthS (nthS (nthS (nthS (nthS (nth0)))))))))))) (by kernel_rfl) (l' := #[true, true, true, true, true, true, true, true, true, true, true, true, false]) rfl ?_
          go_wp2_with (at_builtin; refine wpList_append_src2 _ rfl (.tmp 29) (.tmp 32) 23 rfl M 45 i0 (.agg #[.int .i64 0, .int .i64 0, .slice none 0 0]) 3 40 Try.underlying23 HI.out.1 HI.out.2.1 HI.out.2.2.1 HI.out.2.2.2 rfl (by decide) (.slice A7 (k + 1) c7) (k + 1) ((l.take k).flatMap Ho.row ++ [.int .i64 fl, .int .i64 fr, .slice none 0 0]) rfl ho7 (some AD) (n - k) (c - k) ((l.drop k).flatMap Ho.row) rfl HF2.out HC2n.out (fun ad e => HC2.out _ (HBW.out _ hb7) ad e) (flatH_one _) ?f2 ?f3 ?f4 ?_)
          case f2 => unfold maxLen; omega
          case f3 => omega
          case f4 => exact hz7
          intro v9 W9 ho9 hg9
          have hb9 : Below M w0 W9 := hb7.grown hg9 hz7 (by intro g hg; exact (ho7.lt g hg).1)
          have hbw9 : Below M W7 W9 := (Below.refl _ _).grown hg9 hz7 (by intro g hg; exact (ho7.lt g hg).1)
          obtain ⟨A9, c9, hv9⟩ := own_form2 ho9
          subst hv9
          clear hg9
          go_wp2_with fail
          refine OneR_mk (hbw9) ?_
          refine anyR_take0 12 _ (nthS (nthS (nthS (nthS (nthS (nthS (nthS (nthS (nthS (nthS (nthS (nthS (nth0))))))))))))) rfl (by kernel_rfl) (by kernel_rfl) (by kernel_rfl) (l' := #[true, true, true, true, true, true, true, true, true, true, true, true, true]) rfl rfl ?_; intro K hK; go_big_quiet_op; go_big_quiet_on
          refine anyR_end (by kernel_rfl) ?_
          have HO9 := Lib.hid (HEND.out W9 (.slice A9 (k + 1 + (n - k)) c9) (by simpa using ho9) hb9)
          clear ho9
          go_wp2_with fail
          go_ret
          exact ⟨HO9.out.1, _, _, rfl, HO9.out.2, hmap.out⟩
        · go_wp2_with fail
          generalize hW6 : World.alloc _ _ = W6
          have hb6 : Below M w0 W6 := by rw [← hW6]; exact hb0.alloc hz0 _
          obtain ⟨g6, hg6⟩ : ∃ g6, g6 = W0.heap.size := ⟨_, rfl⟩
          rw [← hg6]
          have hx6 : Blk W6 g6 45 [.int .i64 fl, .int .i64 fr, .slice none 0 0] := by rw [← hW6]; exact Blk.new2 _ [.int .i64 fl, .int .i64 fr, .slice none 0 0] hg6
          have hz6 : M ≤ W6.heap.size := Nat.le_trans HMl.out hb6.size
          have ho6 := ho0.alloc (.cells [.int .i64 fl, .int .i64 fr, .slice none 0 0].toArray 45)
          rw [show W0.alloc (.cells [.int .i64 fl, .int .i64 fr, .slice none 0 0].toArray 45) = W6 from hW6] at ho6
          have hn0 : (some g6 : Option Nat) ≠ (Value.slice (some ⟨wd.heap.size, 0, none⟩) 0 0).ownBlock := by rw [hg6]; exact own_new ho0 (Nat.le_refl _)
          have hbw6 : Below M W0 W6 := by rw [← hW6]; exact (Below.refl _ _).alloc hz0 _
          clear hW6 hg6
          refine OneR_mk (hbw6) ?_
          refine anyR_one 4 _ (nthS (nthS (nthS (nthS (nth0))))) (by kernel_rfl) (l' := #[true, true, true, true, true, true, true, false, true, true, true, false, false]) rfl ?_
          go_wp2_with (at_builtin; refine wpList_append_src2 _ rfl (.tmp 22) (.tmp 25) 23 rfl M 45 i0 (.agg #[.int .i64 0, .int .i64 0, .slice none 0 0]) 3 40 Try.underlying23 HI.out.1 HI.out.2.1 HI.out.2.2.1 HI.out.2.2.2 rfl (by decide) (.slice (some ⟨wd.heap.size, 0, none⟩) 0 0) 0 [] rfl ho6 (some ⟨g, 0, none⟩) k c ((l.take k).flatMap Ho.row) rfl HF1.out HC1n.out (fun ad e => HC1.out _ (HBW.out _ hb6) ad e) (flatH_one _) ?f2 ?f3 ?f4 ?_)
          case f2 => unfold maxLen; omega
          case f3 => omega
          case f4 => exact hz6
          intro v4 W4 ho4 hg4
          have hb4 : Below M w0 W4 := hb6.grown hg4 hz6 (by intro g hg; exact (ho6.lt g hg).1)
          have hz4 : M ≤ W4.heap.size := Nat.le_trans HMl.out hb4.size
          have hx4 : Blk W4 g6 45 [.int .i64 fl, .int .i64 fr, .slice none 0 0] := (hg4.block g6 hx6.lt hn0).trans hx6
          try simp only [List.nil_append, Nat.zero_add] at ho4
          have hbw4 : Below M W6 W4 := (Below.refl _ _).grown hg4 hz6 (by intro g hg; exact (ho6.lt g hg).1)
          obtain ⟨A4, c4, hv4⟩ := own_form2 ho4
          subst hv4
          clear hg4
          go_wp2_with fail
          refine OneR_mk (hbw4) ?_
          refine anyR_one 7 _ (nthS (nthS (nthS (nthS (nthS (nthS (nthS (nth0)))))))) (by kernel_rfl) (l' := #[true, true, true, true, true, true, true, true, true, true, true, false, false]) rfl ?_
          go_wp2_with (at_builtin; refine wpList_append_src2 _ rfl (.tmp 26) (.tmp 28) 23 rfl M 45 i0 (.agg #[.int .i64 0, .int .i64 0, .slice none 0 0]) 3 40 Try.underlying23 HI.out.1 HI.out.2.1 HI.out.2.2.1 HI.out.2.2.2 rfl (by decide) (.slice A4 k c4) k ((l.take k).flatMap Ho.row) rfl ho4 (some ⟨g6, 0, none⟩) 1 1 [.int .i64 fl, .int .i64 fr, .slice none 0 0] rfl rfl (by intro h; cases h) (fun ad e => by cases e; exact hx4.news2) (by intro u hu; simp only [List.mem_cons, List.not_mem_nil, or_false] at hu; rcases hu with rfl | rfl | rfl <;> rfl) ?f2 ?f3 ?f4 ?_)
          case f2 => unfold maxLen; omega
          case f3 => omega
          case f4 => exact hz4
          intro v7 W7 ho7 hg7
          have hb7 : Below M w0 W7 := hb4.grown hg7 hz4 (by intro g hg; exact (ho4.lt g hg).1)
          have hz7 : M ≤ W7.heap.size := Nat.le_trans HMl.out hb7.size
          have hbw7 : Below M W4 W7 := (Below.refl _ _).grown hg7 hz4 (by intro g hg; exact (ho4.lt g hg).1)
          obtain ⟨A7, c7, hv7⟩ := own_form2 ho7
          subst hv7
          clear hg7
          go_wp2_with fail
          refine OneR_mk (hbw7) ?_
          refine anyR_one 11 _ (nthS (nthS (nthS (nthS (nthS (nthS (nthS (nthS (nthS (nthS (nthS (nth0)))))))))))) (by kernel_rfl) (l' := #[true, true, true, true, true, true, true, true, true, true, true, true, false]) rfl ?_
          go_wp2_with (at_builtin; refine wpList_append_src2 _ rfl (.tmp 29) (.tmp 32) 23 rfl M 45 i0 (.agg #[.int .i64 0, .int .i64 0, .slice none 0 0]) 3 40 Try.underlying23 HI.out.1 HI.out.2.1 HI.out.2.2.1 HI.out.2.2.2 rfl (by decide) (.slice A7 (k + 1) c7) (k + 1) ((l.take k).flatMap Ho.row ++ [.int .i64 fl, .int .i64 fr, .slice none 0 0]) rfl ho7 (some AD) (n - k) (c - k) ((l.drop k).flatMap Ho.row) rfl HF2.out HC2n.out (fun ad e => HC2.out _ (HBW.out _ hb7) ad e) (flatH_one _) ?f2 ?f3 ?f4 ?_)
          case f2 => unfold maxLen; omega
          case f3 => omega
          case f4 => exact hz7
          intro v9 W9 ho9 hg9
          have hb9 : Below M w0 W9 := hb7.grown hg9 hz7 (by intro g hg; exact (ho7.lt g hg).1)
          have hbw9 : Below M W7 W9 := (Below.refl _ _).grown hg9 hz7 (by intro g hg; exact (ho7.lt g hg).1)
          obtain ⟨A9, c9, hv9⟩ := own_form2 ho9
          subst hv9
          clear hg9
          go_wp2_with fail
          refine OneR_mk (hbw9) ?_
          refine anyR_take0 12 _ (nthS (nthS (nthS (nthS (nthS (nthS (nthS (nthS (nthS (nthS (nthS (nthS (nth0))))))))))))) rfl (by kernel_rfl) (by kernel_rfl) (by kernel_rfl) (l' := #[true, true, true, true, true, true, true, true, true, true, true, true, true]) rfl rfl ?_; intro K hK; go_big_quiet_op; go_big_quiet_on
          refine anyR_end (by kernel_rfl) ?_
          have HO9 := Lib.hid (HEND.out W9 (.slice A9 (k + 1 + (n - k)) c9) (by simpa using ho9) hb9)
          clear ho9
          go_wp2_with fail
          go_ret
          exact ⟨HO9.out.1, _, _, rfl, HO9.out.2, hmap.out⟩
      · go_wp2_with fail
        generalize hW6 : World.alloc _ _ = W6
        have hb6 : Below M w0 W6 := by rw [← hW6]; exact hbd.alloc HMd.out _
        obtain ⟨g6, hg6⟩ : ∃ g6, g6 = wd.heap.size := ⟨_, rfl⟩
        rw [← hg6]
        have hx6 : Blk W6 g6 45 [.int .i64 fl, .int .i64 fr, .slice none 0 0] := by rw [← hW6]; exact Blk.new2 _ [.int .i64 fl, .int .i64 fr, .slice none 0 0] hg6
        have hz6 : M ≤ W6.heap.size := Nat.le_trans HMl.out hb6.size
        have hbw6 : Below M wd W6 := by rw [← hW6]; exact (Below.refl _ _).alloc HMd.out _
        clear hW6 hg6
        refine OneR_mk (hbw6) ?_
        refine anyR_one 0 _ (nth0) (by kernel_rfl) (l' := #[true, true, true, true, false, true, true, false, true, true, true, false, false]) rfl ?_
        go_wp2_with fail
        generalize hW0 : World.alloc _ _ = W0
        have hb0 : Below M w0 W0 := by rw [← hW0]; exact hb6.alloc hz6 _
        have ho0 : W0.ownsRow M 45 3 (.slice (some ⟨W6.heap.size, 0, none⟩) 0 0) 0 [] := by rw [← hW0]; exact ⟨rfl, .inr ⟨W6.heap.size, 0, #[], rfl, hz6, heap_alloc_new W6 _, Nat.le_refl _, by unfold maxLen; omega, rfl, rfl⟩⟩
        have hz0 : M ≤ W0.heap.size := Nat.le_trans HMl.out hb0.size
        have hx0 : Blk W0 g6 45 [.int .i64 fl, .int .i64 fr, .slice none 0 0] := by rw [← hW0]; exact hx6.alloc _
        have hn0 : (some g6 : Option Nat) ≠ (Value.slice (some ⟨W6.heap.size, 0, none⟩) 0 0).ownBlock := by intro e; simp only [Value.ownBlock, Option.some.injEq] at e; have := hx6.lt; omega
        have hbw0 : Below M W6 W0 := by rw [← hW0]; exact (Below.refl _ _).alloc hz6 _
        clear hW0
        refine OneR_mk (hbw0) ?_
        refine anyR_one 4 _ (nthS (nthS (nthS (nthS (nth0))))) (by kernel_rfl) (l' := #[true, true, true, true, true, true, true, false, true, true, true, false, false]) rfl ?_
        go_wp2_with (at_builtin; refine wpList_append_src2 _ rfl (.tmp 22) (.tmp 25) 23 rfl M 45 i0 (.agg #[.int .i64 0, .int .i64 0, .slice none 0 0]) 3 40 Try.underlying23 HI.out.1 HI.out.2.1 HI.out.2.2.1 HI.out.2.2.2 rfl (by decide) (.slice (some ⟨W6.heap.size, 0, none⟩) 0 0) 0 [] rfl ho0 (some ⟨g, 0, none⟩) k c ((l.take k).flatMap Ho.row) rfl HF1.out HC1n.out (fun ad e => HC1.out _ (HBW.out _ hb0) ad e) (flatH_one _) ?f2 ?f3 ?f4 ?_)
        case f2 => unfold maxLen; omega
        case f3 => omega
        case f4 => exact hz0
        intro v4 W4 ho4 hg4
        have hb4 : Below M w0 W4 := hb0.grown hg4 hz0 (by intro g hg; exact (ho0.lt g hg).1)
        have hz4 : M ≤ W4.heap.size := Nat.le_trans HMl.out hb4.size
        have hx4 : Blk W4 g6 45 [.int .i64 fl, .int .i64 fr, .slice none 0 0] := (hg4.block g6 hx0.lt hn0).trans hx0
        try simp only [List.nil_append, Nat.zero_add] at ho4
        have hbw4 : Below M W0 W4 := (Below.refl _ _).grown hg4 hz0 (by intro g hg; exact (ho0.lt g hg).1)
        obtain ⟨A4, c4, hv4⟩ := own_form2 ho4
        subst hv4
        clear hg4
        go_wp2_with fail
        refine OneR_mk (hbw4) ?_
        refine anyR_one 7 _ (nthS (nthS (nthS (nthS (nthS (nthS (nthS (nth0)))))))) (by kernel_rfl) (l' := #[true, true, true, true, true, true, true, true, true, true, true, false, false]) rfl ?_
        go_wp2_with (at_builtin; refine wpList_append_src2 _ rfl (.tmp 26) (.tmp 28) 23 rfl M 45 i0 (.agg #[.int .i64 0, .int .i64 0, .slice none 0 0]) 3 40 Try.underlying23 HI.out.1 HI.out.2.1 HI.out.2.2.1 HI.out.2.2.2 rfl (by decide) (.slice A4 k c4) k ((l.take k).flatMap Ho.row) rfl ho4 (some ⟨g6, 0, none⟩) 1 1 [.int .i64 fl, .int .i64 fr, .slice none 0 0] rfl rfl (by intro h; cases h) (fun ad e => by cases e; exact hx4.news2) (by intro u hu; simp only [List.mem_cons, List.not_mem_nil, or_false] at hu; rcases hu with rfl | rfl | rfl <;> rfl) ?f2 ?f3 ?f4 ?_)
        case f2 => unfold maxLen; omega
        case f3 => omega
        case f4 => exact hz4
        intro v7 W7 ho7 hg7
        have hb7 : Below M w0 W7 := hb4.grown hg7 hz4 (by intro g hg; exact (ho4.lt g hg).1)
        have hz7 : M ≤ W7.heap.size := Nat.le_trans HMl.out hb7.size
        have hbw7 : Below M W4 W7 := (Below.refl _ _).grown hg7 hz4 (by intro g hg; exact (ho4.lt g hg).1)
        obtain ⟨A7, c7, hv7⟩ := own_form2 ho7
        subst hv7
        clear hg7
        go_wp2_with fail
        refine OneR_mk (hbw7) ?_
        refine anyR_one 11 _ (nthS (nthS (nthS (nthS (nthS (nthS (nthS (nthS (nthS (nthS (nthS (nth0)))))))))))) (by kernel_rfl) (l' := #[true, true, true, true, true, true, true, true, true, true, true, true, false]) rfl ?_
        go_wp2_with (at_builtin; refine wpList_append_src2 _ rfl (.tmp 29) (.tmp 32) 23 rfl M 45 i0 (.agg #[.int .i64 0, .int .i64 0, .slice none 0 0]) 3 40 Try.underlying23 HI.out.1 HI.out.2.1 HI.out.2.2.1 HI.out.2.2.2 rfl (by decide) (.slice A7 (k + 1) c7) (k + 1) ((l.take k).flatMap Ho.row ++ [.int .i64 fl, .int .i64 fr, .slice none 0 0]) rfl ho7 (some AD) (n - k) (c - k) ((l.drop k).flatMap Ho.row) rfl HF2.out HC2n.out (fun ad e => HC2.out _ (HBW.out _ hb7) ad e) (flatH_one _) ?f2 ?f3 ?f4 ?_)
        case f2 => unfold maxLen; omega
        case f3 => omega
        case f4 => exact hz7
        intro v9 W9 ho9 hg9
        have hb9 : Below M w0 W9 := hb7.grown hg9 hz7 (by intro g hg; exact (ho7.lt g hg).1)
        have hbw9 : Below M W7 W9 := (Below.refl _ _).grown hg9 hz7 (by intro g hg; exact (ho7.lt g hg).1)
        obtain ⟨A9, c9, hv9⟩ := own_form2 ho9
        subst hv9
        clear hg9
        go_wp2_with fail
        refine OneR_mk (hbw9) ?_
        refine anyR_take0 12 _ (nthS (nthS (nthS (nthS (nthS (nthS (nthS (nthS (nthS (nthS (nthS (nthS (nth0))))))))))))) rfl (by kernel_rfl) (by kernel_rfl) (by kernel_rfl) (l' := #[true, true, true, true, true, true, true, true, true, true, true, true, true]) rfl rfl ?_; intro K hK; go_big_quiet_op; go_big_quiet_on
        refine anyR_end (by kernel_rfl) ?_
        have HO9 := Lib.hid (HEND.out W9 (.slice A9 (k + 1 + (n - k)) c9) (by simpa using ho9) hb9)
        clear ho9
        go_wp2_with fail
        go_ret
        exact ⟨HO9.out.1, _, _, rfl, HO9.out.2, hmap.out⟩

set_option maxRecDepth 100000 in
set_option maxHeartbeats 8000000 in
theorem rinsert_nil (fl fr : Int) (base : Nat) (w : World) (hB : base ≤ w.heap.size) :
    Calls Try.prog 40 #[(.slice none 0 0), .agg #[.int .i64 fl, .int .i64 fr, .slice none 0 0]] w fun e w' => Below w.heap.size w w' ∧ ∃ v' l', e = .returned v' ∧ OutH w' base v' l' ∧ l'.map Ho.d = ins ([]) ⟨fl, fr, []⟩ := by
  obtain ⟨l, hl0⟩ : ∃ l : List Ho, l = [] := ⟨_, rfl⟩
  have hO : OutH w base (.slice none 0 0) l := by rw [hl0]; exact OutH.nil _ _
  rw [show ins [] ⟨fl, fr, []⟩ = ins (l.map Ho.d) ⟨fl, fr, []⟩ by rw [hl0]; rfl]
  obtain ⟨n, hn⟩ : ∃ n, n = l.length := ⟨_, rfl⟩
  have hn0 : n = 0 := by rw [hn, hl0]; rfl
  obtain ⟨c, hc0⟩ : ∃ c : Nat, c = 0 := ⟨_, rfl⟩
  obtain ⟨i0, hi, hz0, hz1, hz2⟩ := info_parts Try.infoH
  have HI := Lib.hid (And.intro hi (And.intro hz0 (And.intro hz1 hz2)))
  have hmap0 := Lib.hid (ins_map l ⟨fl, fr, [], none, 0⟩)
  dsimp only [Ho.d] at hmap0
  have HOI := Lib.hid hO.2
  have HLW := Lib.hid (fun (i : Nat) h1 h2 h3 => @lowH_of l fl i h1 h2 h3)
  have HN := Lib.hid hn
  have hbx : Below w.heap.size w (w.alloc (.cells #[.int .i64 fl, .int .i64 fr, .slice none 0 0] 45)) := (Below.refl _ _).alloc (Nat.le_refl _) _
  have HRX := Lib.hid (fun W (h : Below (w.heap.size + 1) (w.alloc (.cells #[.int .i64 fl, .int .i64 fr, .slice none 0 0] 45)) W) => (Row.new w [.int .i64 fl, .int .i64 fr, .slice none 0 0] 45).below h (by omega))
  have HBX := Lib.hid (fun W (h : Below (w.heap.size + 1) (w.alloc (.cells #[.int .i64 fl, .int .i64 fr, .slice none 0 0] 45)) W) => (show Below w.heap.size w W ∧ w.heap.size < W.heap.size from ⟨hbx.trans (h.mono (by omega)), by have := h.size; simp at this; omega⟩))
  clear hi hz0 hz1 hz2 hO hn hbx
  have HFIN : Hid (∀ (k : Nat) (W0 W : World) v', k ≤ n → w.heap.size < W0.heap.size → Below w.heap.size w W → W.ownsRow W0.heap.size 45 3 v' (k + 1 + (n - k)) ((l.take k).flatMap Ho.row ++ [.int .i64 fl, .int .i64 fr, .slice none 0 0] ++ (l.drop k).flatMap Ho.row) → OutH W base v' (l.take k ++ (⟨fl, fr, [], none, 0⟩ : Ho) :: l.drop k)) := Lib.hid (fun k W0 W v' hk hwn hbW ho => by
    refine ⟨?_, fun h hh => ?_⟩
    · have e : (l.take k ++ (⟨fl, fr, [], none, 0⟩ : Ho) :: l.drop k).length = k + 1 + (n - k) := by
        rw [List.length_append, List.length_cons, List.length_take, List.length_drop, ← HN.out]; omega
      rw [e, List.flatMap_append, List.flatMap_cons, ← List.append_assoc]
      exact own_base ho (by omega)
    · rcases mem_low hh with rfl | hh
      · exact nil_own _ _ _ _
      · exact (HOI.out h hh).below hbW (Nat.le_refl _))
  subst hn0 hc0
  go_enter Try.func40, Try.ntmps40
  go_wp2_with fail
  go_loopw [5] (fun i wr => ∃ (k : Nat), k ≤ 0 ∧ i = .int .i64 k ∧ Below (w.heap.size + 1) (w.alloc (.cells #[.int .i64 fl, .int .i64 fr, .slice none 0 0] 45)) wr ∧ Hid (∀ (j : Nat) (x : Ho), j < k → l[j]? = some x → x.fl < fl)) (fun i _ => 0 - (intOf i).toNat)
  case atStart => exact ⟨0, Nat.zero_le _, rfl, Below.refl _ _, Lib.hid (fun j x hj => by omega)⟩
  case round =>
    obtain ⟨k, hk, rfl, hb, hst⟩ := hrel
    have rx := HRX.out _ hb
    unfold Row at rx
    obtain rfl : k = 0 := by omega
    have hTk : lowH l fl = 0 := by
      refine HLW.out 0 (by rw [← HN.out]; exact hk) hst.out (fun a ha => ?_)
      have h9 : l = [] := List.eq_nil_of_length_eq_zero HN.out.symm
      rw [h9] at ha; cases ha
    have hmap : Hid ((l.take 0 ++ (⟨fl, fr, [], none, 0⟩ : Ho) :: l.drop 0).map Ho.d = ins (l.map Ho.d) ⟨fl, fr, []⟩) := Lib.hid (by have := hmap0.out; rw [hTk] at this; exact this)
    clear hTk hst hmap0
    have HF1 : Hid (((l.take 0).flatMap Ho.row).length = 0 * 3) := Lib.hid (by rw [flat_len (f := Ho.row) Ho.row_len, List.length_take, ← HN.out, Nat.min_eq_left hk])
    have HF2 : Hid (((l.drop 0).flatMap Ho.row).length = (0 - 0) * 3) := Lib.hid (by rw [flat_len (f := Ho.row) Ho.row_len, List.length_drop, ← HN.out])
    have HC1n : Hid ((none : Option Addr) = none → 0 = 0) := Lib.hid (fun _ => by omega)
    have HC2n : Hid ((none : Option Addr) = none → 0 - 0 = 0) := Lib.hid (fun _ => by omega)
    have HC1 : Hid (∀ W, Below w.heap.size w W → ∀ ad, (none : Option Addr) = some ad → ∀ j u, ((l.take 0).flatMap Ho.row)[j]? = some u → W.cell? (ad.add j) = some u) := Lib.hid (fun W hW ad e => by cases e)
    have HC2 : Hid (∀ W, Below w.heap.size w W → ∀ ad, (none : Option Addr) = some ad → ∀ j u, ((l.drop 0).flatMap Ho.row)[j]? = some u → W.cell? (ad.add j) = some u) := Lib.hid (fun W hW ad e => by cases e)
    go_wp2_with fail
    go_quiet (fail)
    have hbq := below_drewN hb nq
    generalize wr.drewN nq = w0 at *
    have rx0 := HRX.out _ hbq
    obtain ⟨hB0, hwn⟩ := HBX.out _ hbq
    obtain ⟨M, hM⟩ : ∃ M, M = w0.heap.size := ⟨_, rfl⟩
    have HMl : Hid (M ≤ w0.heap.size) := Lib.hid (by rw [hM]; exact Nat.le_refl _)
    have hMw : w.heap.size < M := by rw [hM]; exact hwn
    have HBW : Hid (∀ W, Below M w0 W → Below w.heap.size w W) := Lib.hid (fun W h => hB0.trans (h.mono (Nat.le_of_lt hMw)))
    have HEND : Hid (∀ W v', W.ownsRow M 45 3 v' (0 + 1 + (0 - 0)) ((l.take 0).flatMap Ho.row ++ [.int .i64 fl, .int .i64 fr, .slice none 0 0] ++ (l.drop 0).flatMap Ho.row) → Below M w0 W → Below w.heap.size w W ∧ OutH W base v' (l.take 0 ++ (⟨fl, fr, [], none, 0⟩ : Ho) :: l.drop 0)) := Lib.hid (fun W v' ho h => ⟨HBW.out W h, HFIN.out 0 w0 W v' hk hwn (HBW.out W h) (by rw [← hM]; exact ho)⟩)
    have xx : ∀ (x : ExtW M w0.drew) (i : Nat), x.val.cell? ⟨w.heap.size, i, none⟩ = _ := (Row.drew rx0).ext hMw
    clear rx rx0 hb hbq hwn hM hB0
    go_wp2_with fail
    refine wp_region_rough (M) 13 [] #[false, false, false, false, false, false, false, false, false, false, false, false, false] (by kernel_rfl) rfl rfl ?_
    generalize hwd : w0.drew = wd at xx ⊢
    have hbd : Below M w0 wd := by rw [← hwd]; exact (Below.refl _ _).drew
    have HMd : Hid (M ≤ wd.heap.size) := Lib.hid (by rw [← hwd]; exact HMl.out)
    clear hwd
    refine anyR_take0 1 _ (nthS (nth0)) rfl (by kernel_rfl) (by kernel_rfl) (by kernel_rfl) (l' := #[false, true, false, false, false, false, false, false, false, false, false, false, false]) rfl rfl ?_; intro K hK; go_big_quiet_op; go_big_quiet_on
    refine anyR_take0 2 _ (nthS (nthS (nth0))) rfl (by kernel_rfl) (by kernel_rfl) (by kernel_rfl) (l' := #[false, true, true, false, false, false, false, false, false, false, false, false, false]) rfl rfl ?_; intro K hK; go_big_quiet_op; go_big_quiet_on
    refine anyR_take0 3 _ (nthS (nthS (nthS (nth0)))) rfl (by kernel_rfl) (by kernel_rfl) (by kernel_rfl) (l' := #[false, true, true, true, false, false, false, false, false, false, false, false, false]) rfl rfl ?_; intro K hK; go_big_quiet_op; go_big_quiet_on
    refine anyR_take 5 _ (nthS (nthS (nthS (nthS (nthS (nth0)))))) rfl (by kernel_rfl) (by kernel_rfl) (by kernel_rfl) (by kernel_rfl) (l' := #[false, true, true, true, false, true, false, false, false, false, false, false, false]) rfl rfl ?_; intro K hK; go_big_quiet_op; go_big_quiet_on
    refine anyR_take0 8 _ (nthS (nthS (nthS (nthS (nthS (nthS (nthS (nthS (nth0))))))))) rfl (by kernel_rfl) (by kernel_rfl) (by kernel_rfl) (l' := #[false, true, true, true, false, true, false, false, true, false, false, false, false]) rfl rfl ?_; intro K hK; go_big_quiet_op; go_big_quiet_on
    refine anyR_take0 9 _ (nthS (nthS (nthS (nthS (nthS (nthS (nthS (nthS (nthS (nth0)))))))))) rfl (by kernel_rfl) (by kernel_rfl) (by kernel_rfl) (l' := #[false, true, true, true, false, true, false, false, true, true, false, false, false]) rfl rfl ?_; intro K hK; go_big_quiet_op; go_big_quiet_on
    refine anyR_take0 10 _ (nthS (nthS (nthS (nthS (nthS (nthS (nthS (nthS (nthS (nthS (nth0))))))))))) rfl (by kernel_rfl) (by kernel_rfl) (by kernel_rfl) (l' := #[false, true, true, true, false, true, false, false, true, true, true, false, false]) rfl rfl ?_; intro K hK; go_big_quiet_op; go_big_quiet_on
    refine anyR_two 0 6 _ _ (nth0) (nthS (nthS (nthS (nthS (nthS (nthS (nth0))))))) (by kernel_rfl) (l1 := #[true, true, true, true, false, true, false, false, true, true, true, false, false]) (l2 := #[false, true, true, true, false, true, true, false, true, true, true, false, false]) rfl rfl ?_ ?_
    · go_wp2_with fail
      generalize hW0 : World.alloc _ _ = W0
      have hb0 : Below M w0 W0 := by rw [← hW0]; exact hbd.alloc HMd.out _
      have ho0 : W0.ownsRow M 45 3 (.slice (some ⟨wd.heap.size, 0, none⟩) 0 0) 0 [] := by rw [← hW0]; exact ⟨rfl, .inr ⟨wd.heap.size, 0, #[], rfl, HMd.out, heap_alloc_new wd _, Nat.le_refl _, by unfold maxLen; omega, rfl, rfl⟩⟩
      have hz0 : M ≤ W0.heap.size := Nat.le_trans HMl.out hb0.size
      have hbw0 : Below M wd W0 := by rw [← hW0]; exact (Below.refl _ _).alloc HMd.out _
      clear hW0
      refine OneR_mk (hbw0) ?_
      refine anyR_two 4 6 _ _ (nthS (nthS (nthS (nthS (nth0))))) (nthS (nthS (nthS (nthS (nthS (nthS (nth0))))))) (by kernel_rfl) (l1 := #[true, true, true, true, true, true, false, false, true, true, true, false, false]) (l2 := #[true, true, true, true, false, true, true, false, true, true, true, false, false]) rfl rfl ?_ ?_
      · go_wp2_with (at_builtin; refine wpList_append_src2 _ rfl (.tmp 22) (.tmp 25) 23 rfl M 45 i0 (.agg #[.int .i64 0, .int .i64 0, .slice none 0 0]) 3 40 Try.underlying23 HI.out.1 HI.out.2.1 HI.out.2.2.1 HI.out.2.2.2 rfl (by decide) (.slice (some ⟨wd.heap.size, 0, none⟩) 0 0) 0 [] rfl ho0 none 0 0 ((l.take 0).flatMap Ho.row) rfl HF1.out (fun _ => rfl) (fun ad e => by cases e) (flatH_one _) ?f2 ?f3 ?f4 ?_)
        case f2 => unfold maxLen; omega
        case f3 => omega
        case f4 => exact hz0
        intro v4 W4 ho4 hg4
        have hb4 : Below M w0 W4 := hb0.grown hg4 hz0 (by intro g hg; exact (ho0.lt g hg).1)
        have hz4 : M ≤ W4.heap.size := Nat.le_trans HMl.out hb4.size
        try simp only [List.nil_append, Nat.zero_add] at ho4
        have hbw4 : Below M W0 W4 := (Below.refl _ _).grown hg4 hz0 (by intro g hg; exact (ho0.lt g hg).1)
        obtain ⟨A4, c4, hv4⟩ := own_form2 ho4
        subst hv4
        clear hg4
        go_wp2_with fail
        refine OneR_mk (hbw4) ?_
        refine anyR_one 6 _ (nthS (nthS (nthS (nthS (nthS (nthS (nth0))))))) (by kernel_rfl) (l' := #[true, true, true, true, true, true, true, false, true, true, true, false, false]) rfl ?_
        go_wp2_with fail
        generalize hW6 : World.alloc _ _ = W6
        have hb6 : Below M w0 W6 := by rw [← hW6]; exact hb4.alloc hz4 _
        obtain ⟨g6, hg6⟩ : ∃ g6, g6 = W4.heap.size := ⟨_, rfl⟩
        rw [← hg6]
        have hx6 : Blk W6 g6 45 [.int .i64 fl, .int .i64 fr, .slice none 0 0] := by rw [← hW6]; exact Blk.new2 _ [.int .i64 fl, .int .i64 fr, .slice none 0 0] hg6
        have hz6 : M ≤ W6.heap.size := Nat.le_trans HMl.out hb6.size
        have ho6 := ho4.alloc (.cells [.int .i64 fl, .int .i64 fr, .slice none 0 0].toArray 45)
        rw [show W4.alloc (.cells [.int .i64 fl, .int .i64 fr, .slice none 0 0].toArray 45) = W6 from hW6] at ho6
        have hbw6 : Below M W4 W6 := by rw [← hW6]; exact (Below.refl _ _).alloc hz4 _
        clear hW6 hg6
        refine OneR_mk (hbw6) ?_
        refine anyR_one 7 _ (nthS (nthS (nthS (nthS (nthS (nthS (nthS (nth0)))))))) (by kernel_rfl) (l' := #[true, true, true, true, true, true, true, true, true, true, true, false, false]) rfl ?_
        go_wp2_with (at_builtin; refine wpList_append_src2 _ rfl (.tmp 26) (.tmp 28) 23 rfl M 45 i0 (.agg #[.int .i64 0, .int .i64 0, .slice none 0 0]) 3 40 Try.underlying23 HI.out.1 HI.out.2.1 HI.out.2.2.1 HI.out.2.2.2 rfl (by decide) (.slice A4 0 c4) 0 ((l.take 0).flatMap Ho.row) rfl ho6 (some ⟨g6, 0, none⟩) 1 1 [.int .i64 fl, .int .i64 fr, .slice none 0 0] rfl rfl (by intro h; cases h) (fun ad e => by cases e; exact hx6.news2) (by intro u hu; simp only [List.mem_cons, List.not_mem_nil, or_false] at hu; rcases hu with rfl | rfl | rfl <;> rfl) ?f2 ?f3 ?f4 ?_)
        case f2 => unfold maxLen; omega
        case f3 => omega
        case f4 => exact hz6
        intro v7 W7 ho7 hg7
        have hb7 : Below M w0 W7 := hb6.grown hg7 hz6 (by intro g hg; exact (ho6.lt g hg).1)
        have hz7 : M ≤ W7.heap.size := Nat.le_trans HMl.out hb7.size
        have hbw7 : Below M W6 W7 := (Below.refl _ _).grown hg7 hz6 (by intro g hg; exact (ho6.lt g hg).1)
        obtain ⟨A7, c7, hv7⟩ := own_form2 ho7
        subst hv7
        clear hg7
        go_wp2_with fail
        refine OneR_mk (hbw7) ?_
        refine anyR_one 11 _ (nthS (nthS (nthS (nthS (nthS (nthS (nthS (nthS (nthS (nthS (nthS (nth0)))))))))))) (by kernel_rfl) (l' := #[true, true, true, true, true, true, true, true, true, true, true, true, false]) rfl ?_
        go_wp2_with (at_builtin; refine wpList_append_src2 _ rfl (.tmp 29) (.tmp 32) 23 rfl M 45 i0 (.agg #[.int .i64 0, .int .i64 0, .slice none 0 0]) 3 40 Try.underlying23 HI.out.1 HI.out.2.1 HI.out.2.2.1 HI.out.2.2.2 rfl (by decide) (.slice A7 (0 + 1) c7) (0 + 1) ((l.take 0).flatMap Ho.row ++ [.int .i64 fl, .int .i64 fr, .slice none 0 0]) rfl ho7 none (0 - 0) (0 - 0) ((l.drop 0).flatMap Ho.row) rfl HF2.out (fun _ => rfl) (fun ad e => by cases e) (flatH_one _) ?f2 ?f3 ?f4 ?_)
        case f2 => unfold maxLen; omega
        case f3 => omega
        case f4 => exact hz7
        intro v9 W9 ho9 hg9
        have hb9 : Below M w0 W9 := hb7.grown hg9 hz7 (by intro g hg; exact (ho7.lt g hg).1)
        have hbw9 : Below M W7 W9 := (Below.refl _ _).grown hg9 hz7 (by intro g hg; exact (ho7.lt g hg).1)
        obtain ⟨A9, c9, hv9⟩ := own_form2 ho9
        subst hv9
        clear hg9
        go_wp2_with fail
        refine OneR_mk (hbw9) ?_
        refine anyR_take0 12 _ (nthS (nthS (nthS (nthS (nthS (nthS (nthS (nthS (nthS (nthS (nthS (nthS (nth0))))))))))))) rfl (by kernel_rfl) (by kernel_rfl) (by kernel_rfl) (l' := #[true, true, true, true, true, true, true, true, true, true, true, true, true]) rfl rfl ?_; intro K hK; go_big_quiet_op; go_big_quiet_on
        refine anyR_end (by kernel_rfl) ?_
        have HO9 := Lib.hid (HEND.out W9 (.slice A9 (0 + 1 + (0 - 0)) c9) (by simpa [List.eq_nil_of_length_eq_zero HN.out.symm] using ho9) hb9)
        clear ho9
        go_wp2_with fail
        go_ret
        exact ⟨HO9.out.1, _, _, rfl, HO9.out.2, hmap.out⟩
      · go_wp2_with fail
        generalize hW6 : World.alloc _ _ = W6
        have hb6 : Below M w0 W6 := by rw [← hW6]; exact hb0.alloc hz0 _
        obtain ⟨g6, hg6⟩ : ∃ g6, g6 = W0.heap.size := ⟨_, rfl⟩
        rw [← hg6]
        have hx6 : Blk W6 g6 45 [.int .i64 fl, .int .i64 fr, .slice none 0 0] := by rw [← hW6]; exact Blk.new2 _ [.int .i64 fl, .int .i64 fr, .slice none 0 0] hg6
        have hz6 : M ≤ W6.heap.size := Nat.le_trans HMl.out hb6.size
        have ho6 := ho0.alloc (.cells [.int .i64 fl, .int .i64 fr, .slice none 0 0].toArray 45)
        rw [show W0.alloc (.cells [.int .i64 fl, .int .i64 fr, .slice none 0 0].toArray 45) = W6 from hW6] at ho6
        have hn0 : (some g6 : Option Nat) ≠ (Value.slice (some ⟨wd.heap.size, 0, none⟩) 0 0).ownBlock := by rw [hg6]; exact own_new ho0 (Nat.le_refl _)
        have hbw6 : Below M W0 W6 := by rw [← hW6]; exact (Below.refl _ _).alloc hz0 _
        clear hW6 hg6
        refine OneR_mk (hbw6) ?_
        refine anyR_one 4 _ (nthS (nthS (nthS (nthS (nth0))))) (by kernel_rfl) (l' := #[true, true, true, true, true, true, true, false, true, true, true, false, false]) rfl ?_
        go_wp2_with (at_builtin; refine wpList_append_src2 _ rfl (.tmp 22) (.tmp 25) 23 rfl M 45 i0 (.agg #[.int .i64 0, .int .i64 0, .slice none 0 0]) 3 40 Try.underlying23 HI.out.1 HI.out.2.1 HI.out.2.2.1 HI.out.2.2.2 rfl (by decide) (.slice (some ⟨wd.heap.size, 0, none⟩) 0 0) 0 [] rfl ho6 none 0 0 ((l.take 0).flatMap Ho.row) rfl HF1.out (fun _ => rfl) (fun ad e => by cases e) (flatH_one _) ?f2 ?f3 ?f4 ?_)
        case f2 => unfold maxLen; omega
        case f3 => omega
        case f4 => exact hz6
        intro v4 W4 ho4 hg4
        have hb4 : Below M w0 W4 := hb6.grown hg4 hz6 (by intro g hg; exact (ho6.lt g hg).1)
        have hz4 : M ≤ W4.heap.size := Nat.le_trans HMl.out hb4.size
        have hx4 : Blk W4 g6 45 [.int .i64 fl, .int .i64 fr, .slice none 0 0] := (hg4.block g6 hx6.lt hn0).trans hx6
        try simp only [List.nil_append, Nat.zero_add] at ho4
        have hbw4 : Below M W6 W4 := (Below.refl _ _).grown hg4 hz6 (by intro g hg; exact (ho6.lt g hg).1)
        obtain ⟨A4, c4, hv4⟩ := own_form2 ho4
        subst hv4
        clear hg4
        go_wp2_with fail
        refine OneR_mk (hbw4) ?_
        refine anyR_one 7 _ (nthS (nthS (nthS (nthS (nthS (nthS (nthS (nth0)))))))) (by kernel_rfl) (l' := #[true, true, true, true, true, true, true, true, true, true, true, false, false]) rfl ?_
        go_wp2_with (at_builtin; refine wpList_append_src2 _ rfl (.tmp 26) (.tmp 28) 23 rfl M 45 i0 (.agg #[.int .i64 0, .int .i64 0, .slice none 0 0]) 3 40 Try.underlying23 HI.out.1 HI.out.2.1 HI.out.2.2.1 HI.out.2.2.2 rfl (by decide) (.slice A4 0 c4) 0 ((l.take 0).flatMap Ho.row) rfl ho4 (some ⟨g6, 0, none⟩) 1 1 [.int .i64 fl, .int .i64 fr, .slice none 0 0] rfl rfl (by intro h; cases h) (fun ad e => by cases e; exact hx4.news2) (by intro u hu; simp only [List.mem_cons, List.not_mem_nil, or_false] at hu; rcases hu with rfl | rfl | rfl <;> rfl) ?f2 ?f3 ?f4 ?_)
        case f2 => unfold maxLen; omega
        case f3 => omega
        case f4 => exact hz4
        intro v7 W7 ho7 hg7
        have hb7 : Below M w0 W7 := hb4.grown hg7 hz4 (by intro g hg; exact (ho4.lt g hg).1)
        have hz7 : M ≤ W7.heap.size := Nat.le_trans HMl.out hb7.size
        have hbw7 : Below M W4 W7 := (Below.refl _ _).grown hg7 hz4 (by intro g hg; exact (ho4.lt g hg).1)
        obtain ⟨A7, c7, hv7⟩ := own_form2 ho7
        subst hv7
        clear hg7
        go_wp2_with fail
        refine OneR_mk (hbw7) ?_
        refine anyR_one 11 _ (nthS (nthS (nthS (nthS (nthS (nthS (nthS (nthS (nthS (nthS (nthS (nth0)))))))))))) (by kernel_rfl) (l' := #[true, true, true, true, true, true, true, true, true, true, true, true, false]) rfl ?_
        go_wp2_with (at_builtin; refine wpList_append_src2 _ rfl (.tmp 29) (.tmp 32) 23 rfl M 45 i0 (.agg #[.int .i64 0, .int .i64 0, .slice none 0 0]) 3 40 Try.underlying23 HI.out.1 HI.out.2.1 HI.out.2.2.1 HI.out.2.2.2 rfl (by decide) (.slice A7 (0 + 1) c7) (0 + 1) ((l.take 0).flatMap Ho.row ++ [.int .i64 fl, .int .i64 fr, .slice none 0 0]) rfl ho7 none (0 - 0) (0 - 0) ((l.drop 0).flatMap Ho.row) rfl HF2.out (fun _ => rfl) (fun ad e => by cases e) (flatH_one _) ?f2 ?f3 ?f4 ?_)
        case f2 => unfold maxLen; omega
        case f3 => omega
        case f4 => exact hz7
        intro v9 W9 ho9 hg9
        have hb9 : Below M w0 W9 := hb7.grown hg9 hz7 (by intro g hg; exact (ho7.lt g hg).1)
        have hbw9 : Below M W7 W9 := (Below.refl _ _).grown hg9 hz7 (by intro g hg; exact (ho7.lt g hg).1)
        obtain ⟨A9, c9, hv9⟩ := own_form2 ho9
        subst hv9
        clear hg9
        go_wp2_with fail
        refine OneR_mk (hbw9) ?_
        refine anyR_take0 12 _ (nthS (nthS (nthS (nthS (nthS (nthS (nthS (nthS (nthS (nthS (nthS (nthS (nth0))))))))))))) rfl (by kernel_rfl) (by kernel_rfl) (by kernel_rfl) (l' := #[true, true, true, true, true, true, true, true, true, true, true, true, true]) rfl rfl ?_; intro K hK; go_big_quiet_op; go_big_quiet_on
        refine anyR_end (by kernel_rfl) ?_
        have HO9 := Lib.hid (HEND.out W9 (.slice A9 (0 + 1 + (0 - 0)) c9) (by simpa [List.eq_nil_of_length_eq_zero HN.out.symm] using ho9) hb9)
        clear ho9
        go_wp2_with fail
        go_ret
        exact ⟨HO9.out.1, _, _, rfl, HO9.out.2, hmap.out⟩
    · go_wp2_with fail
      generalize hW6 : World.alloc _ _ = W6
      have hb6 : Below M w0 W6 := by rw [← hW6]; exact hbd.alloc HMd.out _
      obtain ⟨g6, hg6⟩ : ∃ g6, g6 = wd.heap.size := ⟨_, rfl⟩
      rw [← hg6]
      have hx6 : Blk W6 g6 45 [.int .i64 fl, .int .i64 fr, .slice none 0 0] := by rw [← hW6]; exact Blk.new2 _ [.int .i64 fl, .int .i64 fr, .slice none 0 0] hg6
      have hz6 : M ≤ W6.heap.size := Nat.le_trans HMl.out hb6.size
      have hbw6 : Below M wd W6 := by rw [← hW6]; exact (Below.refl _ _).alloc HMd.out _
      clear hW6 hg6
      refine OneR_mk (hbw6) ?_
      refine anyR_one 0 _ (nth0) (by kernel_rfl) (l' := #[true, true, true, true, false, true, true, false, true, true, true, false, false]) rfl ?_
      go_wp2_with fail
      generalize hW0 : World.alloc _ _ = W0
      have hb0 : Below M w0 W0 := by rw [← hW0]; exact hb6.alloc hz6 _
      have ho0 : W0.ownsRow M 45 3 (.slice (some ⟨W6.heap.size, 0, none⟩) 0 0) 0 [] := by rw [← hW0]; exact ⟨rfl, .inr ⟨W6.heap.size, 0, #[], rfl, hz6, heap_alloc_new W6 _, Nat.le_refl _, by unfold maxLen; omega, rfl, rfl⟩⟩
      have hz0 : M ≤ W0.heap.size := Nat.le_trans HMl.out hb0.size
      have hx0 : Blk W0 g6 45 [.int .i64 fl, .int .i64 fr, .slice none 0 0] := by rw [← hW0]; exact hx6.alloc _
      have hn0 : (some g6 : Option Nat) ≠ (Value.slice (some ⟨W6.heap.size, 0, none⟩) 0 0).ownBlock := by intro e; simp only [Value.ownBlock, Option.some.injEq] at e; have := hx6.lt; omega
      have hbw0 : Below M W6 W0 := by rw [← hW0]; exact (Below.refl _ _).alloc hz6 _
      clear hW0
      refine OneR_mk (hbw0) ?_
      refine anyR_one 4 _ (nthS (nthS (nthS (nthS (nth0))))) (by kernel_rfl) (l' := #[true, true, true, true, true, true, true, false, true, true, true, false, false]) rfl ?_
      go_wp2_with (at_builtin; refine wpList_append_src2 _ rfl (.tmp 22) (.tmp 25) 23 rfl M 45 i0 (.agg #[.int .i64 0, .int .i64 0, .slice none 0 0]) 3 40 Try.underlying23 HI.out.1 HI.out.2.1 HI.out.2.2.1 HI.out.2.2.2 rfl (by decide) (.slice (some ⟨W6.heap.size, 0, none⟩) 0 0) 0 [] rfl ho0 none 0 0 ((l.take 0).flatMap Ho.row) rfl HF1.out (fun _ => rfl) (fun ad e => by cases e) (flatH_one _) ?f2 ?f3 ?f4 ?_)
      case f2 => unfold maxLen; omega
      case f3 => omega
      case f4 => exact hz0
      intro v4 W4 ho4 hg4
      have hb4 : Below M w0 W4 := hb0.grown hg4 hz0 (by intro g hg; exact (ho0.lt g hg).1)
      have hz4 : M ≤ W4.heap.size := Nat.le_trans HMl.out hb4.size
      have hx4 : Blk W4 g6 45 [.int .i64 fl, .int .i64 fr, .slice none 0 0] := (hg4.block g6 hx0.lt hn0).trans hx0
      try simp only [List.nil_append, Nat.zero_add] at ho4
      have hbw4 : Below M W0 W4 := (Below.refl _ _).grown hg4 hz0 (by intro g hg; exact (ho0.lt g hg).1)
      obtain ⟨A4, c4, hv4⟩ := own_form2 ho4
      subst hv4
      clear hg4
      go_wp2_with fail
      refine OneR_mk (hbw4) ?_
      refine anyR_one 7 _ (nthS (nthS (nthS (nthS (nthS (nthS (nthS (nth0)))))))) (by kernel_rfl) (l' := #[true, true, true, true, true, true, true, true, true, true, true, false, false]) rfl ?_
      go_wp2_with (at_builtin; refine wpList_append_src2 _ rfl (.tmp 26) (.tmp 28) 23 rfl M 45 i0 (.agg #[.int .i64 0, .int .i64 0, .slice none 0 0]) 3 40 Try.underlying23 HI.out.1 HI.out.2.1 HI.out.2.2.1 HI.out.2.2.2 rfl (by decide) (.slice A4 0 c4) 0 ((l.take 0).flatMap Ho.row) rfl ho4 (some ⟨g6, 0, none⟩) 1 1 [.int .i64 fl, .int .i64 fr, .slice none 0 0] rfl rfl (by intro h; cases h) (fun ad e => by cases e; exact hx4.news2) (by intro u hu; simp only [List.mem_cons, List.not_mem_nil, or_false] at hu; rcases hu with rfl | rfl | rfl <;> rfl) ?f2 ?f3 ?f4 ?_)
      case f2 => unfold maxLen; omega
      case f3 => omega
      case f4 => exact hz4
      intro v7 W7 ho7 hg7
      have hb7 : Below M w0 W7 := hb4.grown hg7 hz4 (by intro g hg; exact (ho4.lt g hg).1)
      have hz7 : M ≤ W7.heap.size := Nat.le_trans HMl.out hb7.size
      have hbw7 : Below M W4 W7 := (Below.refl _ _).grown hg7 hz4 (by intro g hg; exact (ho4.lt g hg).1)
      obtain ⟨A7, c7, hv7⟩ := own_form2 ho7
      subst hv7
      clear hg7
      go_wp2_with fail
      refine OneR_mk (hbw7) ?_
      refine anyR_one 11 _ (nthS (nthS (nthS (nthS (nthS (nthS (nthS (nthS (nthS (nthS (nthS (nth0)))))))))))) (by kernel_rfl) (l' := #[true, true, true, true, true, true, true, true, true, true, true, true, false]) rfl ?_
      go_wp2_with (at_builtin; refine wpList_append_src2 _ rfl (.tmp 29) (.tmp 32) 23 rfl M 45 i0 (.agg #[.int .i64 0, .int .i64 0, .slice none 0 0]) 3 40 Try.underlying23 HI.out.1 HI.out.2.1 HI.out.2.2.1 HI.out.2.2.2 rfl (by decide) (.slice A7 (0 + 1) c7) (0 + 1) ((l.take 0).flatMap Ho.row ++ [.int .i64 fl, .int .i64 fr, .slice none 0 0]) rfl ho7 none (0 - 0) (0 - 0) ((l.drop 0).flatMap Ho.row) rfl HF2.out (fun _ => rfl) (fun ad e => by cases e) (flatH_one _) ?f2 ?f3 ?f4 ?_)
      case f2 => unfold maxLen; omega
      case f3 => omega
      case f4 => exact hz7
      intro v9 W9 ho9 hg9
      have hb9 : Below M w0 W9 := hb7.grown hg9 hz7 (by intro g hg; exact (ho7.lt g hg).1)
      have hbw9 : Below M W7 W9 := (Below.refl _ _).grown hg9 hz7 (by intro g hg; exact (ho7.lt g hg).1)
      obtain ⟨A9, c9, hv9⟩ := own_form2 ho9
      subst hv9
      clear hg9
      go_wp2_with fail
      refine OneR_mk (hbw9) ?_
      refine anyR_take0 12 _ (nthS (nthS (nthS (nthS (nthS (nthS (nthS (nthS (nthS (nthS (nthS (nthS (nth0))))))))))))) rfl (by kernel_rfl) (by kernel_rfl) (by kernel_rfl) (l' := #[true, true, true, true, true, true, true, true, true, true, true, true, true]) rfl rfl ?_; intro K hK; go_big_quiet_op; go_big_quiet_on
      refine anyR_end (by kernel_rfl) ?_
      have HO9 := Lib.hid (HEND.out W9 (.slice A9 (0 + 1 + (0 - 0)) c9) (by simpa [List.eq_nil_of_length_eq_zero HN.out.symm] using ho9) hb9)
      clear ho9
      go_wp2_with fail
      go_ret
      exact ⟨HO9.out.1, _, _, rfl, HO9.out.2, hmap.out⟩

theorem rinsert_any (l : List Ho) (fl fr : Int) (base : Nat) (v : Value) (w : World) (hO : OutH w base v l) (hl : l.length ≤ 100000) (hB : base ≤ w.heap.size) :
    Calls Try.prog 40 #[v, .agg #[.int .i64 fl, .int .i64 fr, .slice none 0 0]] w fun e w' => Below w.heap.size w w' ∧ ∃ v' l', e = .returned v' ∧ OutH w' base v' l' ∧ l'.map Ho.d = ins (l.map Ho.d) ⟨fl, fr, []⟩ := by
  rcases hO.1.2 with ⟨rfl, h0⟩ | ⟨g, cap, cur, rfl, _⟩
  · have hl0 : l = [] := List.eq_nil_of_length_eq_zero h0
    subst hl0
    exact rinsert_nil fl fr base w hB
  · exact rinsert_some l fl fr base g cap w hO hl hB
end Go.Proofs.Ytepamedbbbfjkaa
