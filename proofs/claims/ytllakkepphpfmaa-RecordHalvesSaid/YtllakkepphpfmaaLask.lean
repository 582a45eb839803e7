/- RecordAsks: Attempts, Losses and Counts return what the reference returns. -/
import Derived.Test.YtllakkepphpfmaaOpen
import Derived.Test.YtllakkepphpfmaaEqF
import Derived.Test.YtllakkepphpfmaaEqA
import Derived.Test.YtllakkepphpfmaaRcounts
namespace Go.Proofs.Ytllakkepphpfmaa
open Go.RowKit
open Rc

theorem lossGo_len (fr to_ : Int) : ∀ (l : List Att) (run : List Int) (out : List (List Int)), (lossGo fr to_ l run out).length ≤ out.length + l.length + 1 ∧ ∀ x ∈ lossGo fr to_ l run out, x ∈ out ∨ x.length ≤ run.length + l.length
  | [], run, out => by
    simp only [lossGo, flush]
    split
    · exact ⟨by simp, fun x hx => .inl hx⟩
    · refine ⟨by simp, fun x hx => ?_⟩
      rcases List.mem_append.1 hx with h | h
      · exact .inl h
      · simp at h; subst h; exact .inr (by simp)
  | a :: l, run, out => by
    simp only [lossGo]
    split
    · obtain ⟨h1, h2⟩ := lossGo_len fr to_ l run out
      refine ⟨by simp; omega, fun x hx => (h2 x hx).imp id fun h => by simp; omega⟩
    · split
      · obtain ⟨h1, h2⟩ := lossGo_len fr to_ l [] (flush run out)
        have hf : (flush run out).length ≤ out.length + 1 ∧ ∀ x ∈ flush run out, x ∈ out ∨ x = run := by
          unfold flush
          split
          · exact ⟨by omega, fun x hx => .inl hx⟩
          · exact ⟨by simp, fun x hx => by simpa using hx⟩
        refine ⟨by simp; omega, fun x hx => ?_⟩
        rcases h2 x hx with h | h
        · rcases hf.2 x h with h | h
          · exact .inl h
          · subst h; exact .inr (by omega)
        · exact .inr (by simp at h ⊢; omega)
      · obtain ⟨h1, h2⟩ := lossGo_len fr to_ l (run ++ [a.s]) out
        refine ⟨by simp; omega, fun x hx => (h2 x hx).imp id fun h => by simp at h ⊢; omega⟩
theorem lossP_len (l : List Att) (flow frame fr to_ : Int) (h : l.length ≤ 150) : (lossP l flow frame fr to_).length ≤ 1000000 ∧ ∀ x ∈ lossP l flow frame fr to_, x.length ≤ 1000000 := by
  obtain ⟨h1, h2⟩ := lossGo_len fr to_ (ofFrame l flow frame) [] []
  have h3 : (ofFrame l flow frame).length ≤ l.length := List.length_filter_le _ _
  simp only [List.length_nil] at h1 h2
  refine ⟨by unfold lossP; omega, fun x hx => ?_⟩
  rcases h2 x hx with h | h
  · cases h
  · omega
theorem bump_len (cs : List Int) (a : Att) : (bump cs a).length = cs.length := by unfold bump; split <;> simp
theorem counts_len : ∀ (al : List Att) (cs : List Int), (al.foldl bump cs).length = cs.length
  | [], _ => rfl
  | a :: al, cs => by rw [List.foldl_cons, counts_len al, bump_len]
theorem counts_five (al : List Att) (n : Nat) : ∃ c0 c1 c2 c3 c4, countsP al n = [c0, c1, c2, c3, c4] := by
  have h := counts_len al [(n : Int), 0, 0, 0, 0]
  unfold countsP
  generalize al.foldl bump [(n : Int), 0, 0, 0, 0] = l at h ⊢
  match l, h with
  | [c0, c1, c2, c3, c4], _ => exact ⟨c0, c1, c2, c3, c4, rfl⟩

/-- An array of integers is equal to itself. -/
theorem eqInts {P : Program} {t e : TypeId} {n : Nat} (ht : P.underlying t = some (.array n e)) (he : P.underlying e = some (.int .i64)) (hsz : ∀ w, (sizeOf e).run P w = .ok 1 w) (xs : List Int) (hx : xs.length = n) (w : World) :
    (Op.equalIn 10000 t (.agg (xs.map (Value.int .i64)).toArray) (.agg (xs.map (Value.int .i64)).toArray)).run P w = .ok true w := by
  rw [Op.equalIn]
  simp only [Sem.run_bind, run_underlying ht, Result.andThen_ok, hsz, Std.Legacy.Range.forIn_eq_forIn_range', Std.Legacy.Range.size, Nat.sub_zero, Nat.add_sub_cancel, Nat.div_one]
  have hl : ∀ i ∈ List.range' 0 n 1, i < n := fun i hi => by simpa using (List.mem_range'_1.1 hi).2
  generalize List.range' 0 n 1 = l at hl ⊢
  induction l with
  | nil => simp
  | cons i l ih =>
    have hi : i < n := hl i (by simp)
    have px : (part e (xs.map (Value.int .i64)).toArray (i * 1)).run P w = .ok (.int .i64 (xs.getD i 0)) w := by
      simp [part, isAgg, run_underlying he, List.getD, List.getElem?_eq_getElem (show i < xs.length by omega)]
    have pe : (Op.equalIn 9999 e (.int .i64 (xs.getD i 0)) (.int .i64 (xs.getD i 0))).run P w = .ok true w := by
      rw [run_equalIn_int w 9998 e .i64 .i64 _ _ he]
      simp
    simp only [List.forIn_cons, Sem.run_bind, px, pe, Result.andThen_ok]
    simp only [Bool.not_true, Bool.false_eq_true, if_false, Sem.run_pure, Result.andThen_ok]
    exact ih fun j hj => hl j (by simp [hj])

set_option maxRecDepth 100000 in
set_option maxHeartbeats 2000000 in
theorem recordAsks_walk (r : Rec) (A D : Option Addr) (ca cd : Nat) (flow frame fr to_ : Int) (w : World) (hr : RecIn w r A D) :
    Calls Try.prog 7 #[.agg #[.int .i64 r.slots, .slice A r.al.length ca, .slice D r.dl.length cd], .int .i64 flow, .int .i64 frame, .int .i64 fr, .int .i64 to_] w fun e w' => e = .returned (.bool true) ∧ Below w.heap.size w w' := by
  obtain ⟨hA, hD, hm1, hm2, hnA, hnD⟩ := hr
  have few := fun W => few_any r A D ca cd W hm1 hm2
  have HF := Lib.hid few
  have HnA := Lib.hid hnA
  have HnD := Lib.hid hnD
  clear few hnA hnD
  go_enter Try.func7, Try.ntmps7
  go_wp2_with fail
  generalize hW1 : World.alloc _ _ = W1
  have bR : Blk W1 w.heap.size 28 [.int .i64 r.slots, .slice A r.al.length ca, .slice D r.dl.length cd] := by rw [← hW1]; exact Blk.new' _ [.int .i64 r.slots, .slice A r.al.length ca, .slice D r.dl.length cd] rfl
  have hb1 : Below w.heap.size w W1 := by rw [← hW1]; exact (Below.refl _ _).alloc (Nat.le_refl _) _
  clear hW1
  obtain ⟨N, hN⟩ : ∃ N, N = w.heap.size := ⟨_, rfl⟩
  rw [← hN] at bR hb1 hA hD ⊢
  obtain ⟨M, hM⟩ : ∃ M, M = W1.heap.size := ⟨_, rfl⟩
  have hNM : N < M := by rw [hM]; exact bR.lt
  have LA : Hid (∀ W, Below M W1 W → LiesA W W.heap.size A r.al ∧ LiesD W W.heap.size D r.dl) := Lib.hid fun W h => ⟨((hA.below hb1).below_le h (by omega)).more (by have := h.size; omega), ((hD.below hb1).below_le h (by omega)).more (by have := h.size; omega)⟩
  have HRow : Hid (∀ W, Below M W1 W → Row W N [.int .i64 r.slots, .slice A r.al.length ca, .slice D r.dl.length cd]) := Lib.hid fun W h => (bR.below h hNM).row
  have HW : Hid (∀ W, Below M W1 W → Below N w W ∧ M ≤ W.heap.size) := Lib.hid fun W h => ⟨hb1.trans (h.mono (by omega)), by have := h.size; omega⟩
  have HN := Lib.hid hN
  have HM := Lib.hid hM
  clear hN hA hD bR hb1
  refine (awake_any W1).mono ?_
  rintro e w2 ⟨rfl, hb2⟩
  rw [← hM] at hb2
  clear hM
  have r2 := HRow.out _ hb2
  unfold Row at r2
  go_wp2_with fail
  refine (HF.out w2).mono ?_
  rintro e w3 ⟨rfl, hb3⟩
  have hb3' : Below M W1 w3 := hb2.trans (hb3.mono (HW.out _ hb2).2)
  clear r2 hb2 hb3
  by_cases hfew : r.al.length ≤ 150 ∧ r.dl.length ≤ 100
  case neg =>
    have hf : (decide (r.al.length ≤ 150) && decide (r.dl.length ≤ 100)) = false := by
      rw [Bool.eq_false_iff]; intro h; exact hfew (by simpa using h)
    rw [hf]
    clear hf hfew
    go_wp2_with fail
    refine (awake_any w3).mono ?_
    rintro e w4 ⟨rfl, hb4⟩
    have hb4' : Below M W1 w4 := hb3'.trans (hb4.mono (HW.out _ hb3').2)
    go_wp2_with fail
    go_ret
    exact ⟨rfl, by rw [← HN.out]; exact (HW.out _ hb4').1⟩
  have hf : (decide (r.al.length ≤ 150) && decide (r.dl.length ≤ 100)) = true := by simpa using hfew
  rw [hf]
  have hl1 : r.al.length ≤ 1000000 := by omega
  have hl2 : r.dl.length ≤ 1000000 := by omega
  clear hf
  have r3 := HRow.out _ hb3'
  unfold Row at r3
  have hof : (ofFrame r.al flow frame).length ≤ 1000000 := Nat.le_trans (List.length_filter_le _ _) hl1
  have HLS := Lib.hid (lossP_len r.al flow frame fr to_ (by omega))
  obtain ⟨c0, c1, c2, c3, c4, hcn⟩ := counts_five r.al r.dl.length
  have HC1 : Hid (∀ (W : World) (A D : Option Addr) (ca cd : Nat), LiesA W W.heap.size A r.al → Calls Try.prog 28 #[.agg #[.int .i64 r.slots, .slice A r.al.length ca, .slice D r.dl.length cd]] W fun e w' => e = .returned (.agg #[.int .i64 c0, .int .i64 c1, .int .i64 c2, .int .i64 c3, .int .i64 c4]) ∧ Below W.heap.size W w') := Lib.hid fun W A D ca cd h => by
    have := counts_any r A D ca cd W h hl1 hl2
    rw [hcn] at this
    simpa only [cntV, List.map_cons, List.map_nil] using this
  have HC2 : Hid (∀ (W : World) (A D : Option Addr) (ca cd : Nat), LiesA W W.heap.size A r.al → Calls Try.prog 29 #[.agg #[.int .i64 r.slots, .slice A r.al.length ca, .slice D r.dl.length cd]] W fun e w' => e = .returned (.agg #[.int .i64 c0, .int .i64 c1, .int .i64 c2, .int .i64 c3, .int .i64 c4]) ∧ Below W.heap.size W w') := Lib.hid fun W A D ca cd h => by
    have := rcounts_any r A D ca cd W h hl1 hl2
    rw [hcn] at this
    simpa only [cntV, List.map_cons, List.map_nil] using this
  have heq : ∀ W, (Op.equalIn 10000 53 (.agg #[.int .i64 c0, .int .i64 c1, .int .i64 c2, .int .i64 c3, .int .i64 c4]) (.agg #[.int .i64 c0, .int .i64 c1, .int .i64 c2, .int .i64 c3, .int .i64 c4])).run Try.prog W = .ok true W := fun W =>
    eqInts Try.underlying53 Try.underlying3 (fun _ => by kernel_rfl) [c0, c1, c2, c3, c4] rfl W
  clear hcn r3
  have B0 : Below M W1 w3.drew := hb3'.drew
  have Z0 : M ≤ w3.drew.heap.size := (HW.out _ B0).2
  have hN3 : N < w3.heap.size := by have : w3.drew.heap.size = w3.heap.size := rfl; omega
  have C0 : w3.heap.size ≤ w3.drew.heap.size := Nat.le_refl _
  go_wp2_with fail
  have x2 : ∀ (x : ExtW w3.heap.size w3.drew) (i : Nat), x.val.cell? ⟨N, i, none⟩ = _ := (HRow.out _ B0).ext hN3
  refine wp_region_rough (w3.heap.size) 36 [] #[false, false, false, false, false, false, false, false, false, false, false, false, false, false, false, false, false, false, false, false, false, false, false, false, false, false, false, false, false, false, false, false, false, false, false, false] (by kernel_rfl) rfl rfl ?_
  refine anyR_take 0 _ (nth0) rfl (by kernel_rfl) (by kernel_rfl) (by kernel_rfl) (by kernel_rfl) (l' := #[true, false, false, false, false, false, false, false, false, false, false, false, false, false, false, false, false, false, false, false, false, false, false, false, false, false, false, false, false, false, false, false, false, false, false, false]) rfl rfl ?_; intro K hK; go_big_quiet_op; go_big_quiet_on
  refine anyR_take0 2 _ (nthS (nthS (nth0))) rfl (by kernel_rfl) (by kernel_rfl) (by kernel_rfl) (l' := #[true, false, true, false, false, false, false, false, false, false, false, false, false, false, false, false, false, false, false, false, false, false, false, false, false, false, false, false, false, false, false, false, false, false, false, false]) rfl rfl ?_; intro K hK; go_big_quiet_op; go_big_quiet_on
  refine anyR_take0 3 _ (nthS (nthS (nthS (nth0)))) rfl (by kernel_rfl) (by kernel_rfl) (by kernel_rfl) (l' := #[true, false, true, true, false, false, false, false, false, false, false, false, false, false, false, false, false, false, false, false, false, false, false, false, false, false, false, false, false, false, false, false, false, false, false, false]) rfl rfl ?_; intro K hK; go_big_quiet_op; go_big_quiet_on
  refine anyR_take 5 _ (nthS (nthS (nthS (nthS (nthS (nth0)))))) rfl (by kernel_rfl) (by kernel_rfl) (by kernel_rfl) (by kernel_rfl) (l' := #[true, false, true, true, false, true, false, false, false, false, false, false, false, false, false, false, false, false, false, false, false, false, false, false, false, false, false, false, false, false, false, false, false, false, false, false]) rfl rfl ?_; intro K hK; go_big_quiet_op; go_big_quiet_on
  refine anyR_take0 6 _ (nthS (nthS (nthS (nthS (nthS (nthS (nth0))))))) rfl (by kernel_rfl) (by kernel_rfl) (by kernel_rfl) (l' := #[true, false, true, true, false, true, true, false, false, false, false, false, false, false, false, false, false, false, false, false, false, false, false, false, false, false, false, false, false, false, false, false, false, false, false, false]) rfl rfl ?_; intro K hK; go_big_quiet_op; go_big_quiet_on
  refine anyR_take0 7 _ (nthS (nthS (nthS (nthS (nthS (nthS (nthS (nth0)))))))) rfl (by kernel_rfl) (by kernel_rfl) (by kernel_rfl) (l' := #[true, false, true, true, false, true, true, true, false, false, false, false, false, false, false, false, false, false, false, false, false, false, false, false, false, false, false, false, false, false, false, false, false, false, false, false]) rfl rfl ?_; intro K hK; go_big_quiet_op; go_big_quiet_on
  refine anyR_one 1 _ (nthS (nth0)) (by kernel_rfl) (l' := #[true, true, true, true, false, true, true, true, false, false, false, false, false, false, false, false, false, false, false, false, false, false, false, false, false, false, false, false, false, false, false, false, false, false, false, false]) rfl ?_
  clear x2
  go_wp2_with fail
  refine (cp_any r A D ca cd _ (LA.out _ B0).1 (LA.out _ B0).2 hl1 hl2 HnA.out HnD.out).mono ?_
  rintro e y1 ⟨hc1, A1, D1, ca1, cd1, rfl, oA1, oD1⟩
  have lA1 := own_A oA1
  have lD1 := own_D oD1
  clear oA1 oD1
  have B1 : Below M W1 y1 := B0.trans (hc1.mono Z0)
  have Z1 : M ≤ y1.heap.size := (HW.out _ B1).2
  have C1 : w3.heap.size ≤ y1.heap.size := Nat.le_trans C0 hc1.size
  go_wp2_with fail
  refine OneR_mk (hc1.mono C0) ?_
  refine anyR_one 4 _ (nthS (nthS (nthS (nthS (nth0))))) (by kernel_rfl) (l' := #[true, true, true, true, true, true, true, true, false, false, false, false, false, false, false, false, false, false, false, false, false, false, false, false, false, false, false, false, false, false, false, false, false, false, false, false]) rfl ?_
  go_wp2_with fail
  refine (attempts2_any r A1 D1 ca1 cd1 flow frame y1 lA1 hl1).mono ?_
  rintro e y2 ⟨hc2, va2, rfl, o2⟩
  obtain ⟨P2, k2, hv2⟩ := own_form o2
  subst hv2
  have o2h := Lib.hid o2
  clear o2 lA1 lD1
  have B2 : Below M W1 y2 := B1.trans (hc2.mono Z1)
  have Z2 : M ≤ y2.heap.size := (HW.out _ B2).2
  have C2 : w3.heap.size ≤ y2.heap.size := Nat.le_trans C1 hc2.size
  go_wp2_with fail
  refine OneR_mk (hc2.mono C1) ?_
  refine anyR_one 8 _ (nthS (nthS (nthS (nthS (nthS (nthS (nthS (nthS (nth0))))))))) (by kernel_rfl) (l' := #[true, true, true, true, true, true, true, true, true, false, false, false, false, false, false, false, false, false, false, false, false, false, false, false, false, false, false, false, false, false, false, false, false, false, false, false]) rfl ?_
  go_wp2_with fail
  refine (rattempts_any r A D ca cd flow frame y2 (LA.out _ B2).1 hl1).mono ?_
  rintro e y3 ⟨hc3, va3, rfl, o3⟩
  obtain ⟨P3, k3, hv3⟩ := own_form o3
  subst hv3
  have l2 : LiesA y3 y3.heap.size P2 (ofFrame r.al flow frame) := own_A (own_kept (w' := y3) o2h.out fun g cs hg h => h.below hc3 h.lt)
  have l3 := own_A o3
  clear o3 o2h
  have B3 : Below M W1 y3 := B2.trans (hc3.mono Z2)
  have Z3 : M ≤ y3.heap.size := (HW.out _ B3).2
  have C3 : w3.heap.size ≤ y3.heap.size := Nat.le_trans C2 hc3.size
  go_wp2_with fail
  refine OneR_mk (hc3.mono C2) ?_
  refine anyR_one 9 _ (nthS (nthS (nthS (nthS (nthS (nthS (nthS (nthS (nthS (nth0)))))))))) (by kernel_rfl) (l' := #[true, true, true, true, true, true, true, true, true, true, false, false, false, false, false, false, false, false, false, false, false, false, false, false, false, false, false, false, false, false, false, false, false, false, false, false]) rfl ?_
  go_wp2_with fail
  refine (equalA_any (ofFrame r.al flow frame) (ofFrame r.al flow frame) P2 P3 k2 k3 y3 l2 l3 hof hof).mono ?_
  rw [show decide (ofFrame r.al flow frame = ofFrame r.al flow frame) = true by simp]
  rintro e y4 ⟨rfl, hc4⟩
  clear l2 l3
  have B4 : Below M W1 y4 := B3.trans (hc4.mono Z3)
  have Z4 : M ≤ y4.heap.size := (HW.out _ B4).2
  have C4 : w3.heap.size ≤ y4.heap.size := Nat.le_trans C3 hc4.size
  go_wp2_with fail
  refine OneR_mk (hc4.mono C3) ?_
  refine anyR_take0 10 _ (nthS (nthS (nthS (nthS (nthS (nthS (nthS (nthS (nthS (nthS (nth0))))))))))) rfl (by kernel_rfl) (by kernel_rfl) (by kernel_rfl) (l' := #[true, true, true, true, true, true, true, true, true, true, true, false, false, false, false, false, false, false, false, false, false, false, false, false, false, false, false, false, false, false, false, false, false, false, false, false]) rfl rfl ?_; intro K hK; go_big_quiet_op; go_big_quiet_on
  have x2 : ∀ (x : ExtW w3.heap.size y4) (i : Nat), x.val.cell? ⟨N, i, none⟩ = _ := (HRow.out _ B4).ext hN3
  refine anyR_take 11 _ (nthS (nthS (nthS (nthS (nthS (nthS (nthS (nthS (nthS (nthS (nthS (nth0)))))))))))) rfl (by kernel_rfl) (by kernel_rfl) (by kernel_rfl) (by kernel_rfl) (l' := #[true, true, true, true, true, true, true, true, true, true, true, true, false, false, false, false, false, false, false, false, false, false, false, false, false, false, false, false, false, false, false, false, false, false, false, false]) rfl rfl ?_; intro K hK; go_big_quiet_op; go_big_quiet_on
  clear x2
  refine anyR_take0 13 _ (nthS (nthS (nthS (nthS (nthS (nthS (nthS (nthS (nthS (nthS (nthS (nthS (nthS (nth0)))))))))))))) rfl (by kernel_rfl) (by kernel_rfl) (by kernel_rfl) (l' := #[true, true, true, true, true, true, true, true, true, true, true, true, false, true, false, false, false, false, false, false, false, false, false, false, false, false, false, false, false, false, false, false, false, false, false, false]) rfl rfl ?_; intro K hK; go_big_quiet_op; go_big_quiet_on
  refine anyR_take0 14 _ (nthS (nthS (nthS (nthS (nthS (nthS (nthS (nthS (nthS (nthS (nthS (nthS (nthS (nthS (nth0))))))))))))))) rfl (by kernel_rfl) (by kernel_rfl) (by kernel_rfl) (l' := #[true, true, true, true, true, true, true, true, true, true, true, true, false, true, true, false, false, false, false, false, false, false, false, false, false, false, false, false, false, false, false, false, false, false, false, false]) rfl rfl ?_; intro K hK; go_big_quiet_op; go_big_quiet_on
  refine anyR_take0 15 _ (nthS (nthS (nthS (nthS (nthS (nthS (nthS (nthS (nthS (nthS (nthS (nthS (nthS (nthS (nthS (nth0)))))))))))))))) rfl (by kernel_rfl) (by kernel_rfl) (by kernel_rfl) (l' := #[true, true, true, true, true, true, true, true, true, true, true, true, false, true, true, true, false, false, false, false, false, false, false, false, false, false, false, false, false, false, false, false, false, false, false, false]) rfl rfl ?_; intro K hK; go_big_quiet_op; go_big_quiet_on
  refine anyR_take0 16 _ (nthS (nthS (nthS (nthS (nthS (nthS (nthS (nthS (nthS (nthS (nthS (nthS (nthS (nthS (nthS (nthS (nth0))))))))))))))))) rfl (by kernel_rfl) (by kernel_rfl) (by kernel_rfl) (l' := #[true, true, true, true, true, true, true, true, true, true, true, true, false, true, true, true, true, false, false, false, false, false, false, false, false, false, false, false, false, false, false, false, false, false, false, false]) rfl rfl ?_; intro K hK; go_big_quiet_op; go_big_quiet_on
  have x2 : ∀ (x : ExtW w3.heap.size y4) (i : Nat), x.val.cell? ⟨N, i, none⟩ = _ := (HRow.out _ B4).ext hN3
  refine anyR_take 18 _ (nthS (nthS (nthS (nthS (nthS (nthS (nthS (nthS (nthS (nthS (nthS (nthS (nthS (nthS (nthS (nthS (nthS (nthS (nth0))))))))))))))))))) rfl (by kernel_rfl) (by kernel_rfl) (by kernel_rfl) (by kernel_rfl) (l' := #[true, true, true, true, true, true, true, true, true, true, true, true, false, true, true, true, true, false, true, false, false, false, false, false, false, false, false, false, false, false, false, false, false, false, false, false]) rfl rfl ?_; intro K hK; go_big_quiet_op; go_big_quiet_on
  clear x2
  refine anyR_take0 19 _ (nthS (nthS (nthS (nthS (nthS (nthS (nthS (nthS (nthS (nthS (nthS (nthS (nthS (nthS (nthS (nthS (nthS (nthS (nthS (nth0)))))))))))))))))))) rfl (by kernel_rfl) (by kernel_rfl) (by kernel_rfl) (l' := #[true, true, true, true, true, true, true, true, true, true, true, true, false, true, true, true, true, false, true, true, false, false, false, false, false, false, false, false, false, false, false, false, false, false, false, false]) rfl rfl ?_; intro K hK; go_big_quiet_op; go_big_quiet_on
  refine anyR_take0 20 _ (nthS (nthS (nthS (nthS (nthS (nthS (nthS (nthS (nthS (nthS (nthS (nthS (nthS (nthS (nthS (nthS (nthS (nthS (nthS (nthS (nth0))))))))))))))))))))) rfl (by kernel_rfl) (by kernel_rfl) (by kernel_rfl) (l' := #[true, true, true, true, true, true, true, true, true, true, true, true, false, true, true, true, true, false, true, true, true, false, false, false, false, false, false, false, false, false, false, false, false, false, false, false]) rfl rfl ?_; intro K hK; go_big_quiet_op; go_big_quiet_on
  refine anyR_take0 21 _ (nthS (nthS (nthS (nthS (nthS (nthS (nthS (nthS (nthS (nthS (nthS (nthS (nthS (nthS (nthS (nthS (nthS (nthS (nthS (nthS (nthS (nth0)))))))))))))))))))))) rfl (by kernel_rfl) (by kernel_rfl) (by kernel_rfl) (l' := #[true, true, true, true, true, true, true, true, true, true, true, true, false, true, true, true, true, false, true, true, true, true, false, false, false, false, false, false, false, false, false, false, false, false, false, false]) rfl rfl ?_; intro K hK; go_big_quiet_op; go_big_quiet_on
  refine anyR_take0 22 _ (nthS (nthS (nthS (nthS (nthS (nthS (nthS (nthS (nthS (nthS (nthS (nthS (nthS (nthS (nthS (nthS (nthS (nthS (nthS (nthS (nthS (nthS (nth0))))))))))))))))))))))) rfl (by kernel_rfl) (by kernel_rfl) (by kernel_rfl) (l' := #[true, true, true, true, true, true, true, true, true, true, true, true, false, true, true, true, true, false, true, true, true, true, true, false, false, false, false, false, false, false, false, false, false, false, false, false]) rfl rfl ?_; intro K hK; go_big_quiet_op; go_big_quiet_on
  refine anyR_take0 24 _ (nthS (nthS (nthS (nthS (nthS (nthS (nthS (nthS (nthS (nthS (nthS (nthS (nthS (nthS (nthS (nthS (nthS (nthS (nthS (nthS (nthS (nthS (nthS (nthS (nth0))))))))))))))))))))))))) rfl (by kernel_rfl) (by kernel_rfl) (by kernel_rfl) (l' := #[true, true, true, true, true, true, true, true, true, true, true, true, false, true, true, true, true, false, true, true, true, true, true, false, true, false, false, false, false, false, false, false, false, false, false, false]) rfl rfl ?_; intro K hK; go_big_quiet_op; go_big_quiet_on
  refine anyR_one 12 _ (nthS (nthS (nthS (nthS (nthS (nthS (nthS (nthS (nthS (nthS (nthS (nthS (nth0))))))))))))) (by kernel_rfl) (l' := #[true, true, true, true, true, true, true, true, true, true, true, true, true, true, true, true, true, false, true, true, true, true, true, false, true, false, false, false, false, false, false, false, false, false, false, false]) rfl ?_
  go_wp2_with fail
  refine (cp_any r A D ca cd _ (LA.out _ B4).1 (LA.out _ B4).2 hl1 hl2 HnA.out HnD.out).mono ?_
  rintro e y5 ⟨hc5, A5, D5, ca5, cd5, rfl, oA5, oD5⟩
  have lA5 := own_A oA5
  have lD5 := own_D oD5
  clear oA5 oD5
  have B5 : Below M W1 y5 := B4.trans (hc5.mono Z4)
  have Z5 : M ≤ y5.heap.size := (HW.out _ B5).2
  have C5 : w3.heap.size ≤ y5.heap.size := Nat.le_trans C4 hc5.size
  go_wp2_with fail
  refine OneR_mk (hc5.mono C4) ?_
  refine anyR_one 17 _ (nthS (nthS (nthS (nthS (nthS (nthS (nthS (nthS (nthS (nthS (nthS (nthS (nthS (nthS (nthS (nthS (nthS (nth0)))))))))))))))))) (by kernel_rfl) (l' := #[true, true, true, true, true, true, true, true, true, true, true, true, true, true, true, true, true, true, true, true, true, true, true, false, true, false, false, false, false, false, false, false, false, false, false, false]) rfl ?_
  go_wp2_with fail
  refine (losses_any r A5 D5 ca5 cd5 flow frame fr to_ y5 lA5 hl1).mono ?_
  rintro e y6 ⟨hc6, vo6, vs6, rfl, o6, s6⟩
  obtain ⟨P6, k6, hv6⟩ := own_form o6
  subst hv6
  have o6h := Lib.hid o6
  have s6h := Lib.hid s6
  clear o6 s6 lA5 lD5
  have B6 : Below M W1 y6 := B5.trans (hc6.mono Z5)
  have Z6 : M ≤ y6.heap.size := (HW.out _ B6).2
  have C6 : w3.heap.size ≤ y6.heap.size := Nat.le_trans C5 hc6.size
  go_wp2_with fail
  refine OneR_mk (hc6.mono C5) ?_
  refine anyR_one 23 _ (nthS (nthS (nthS (nthS (nthS (nthS (nthS (nthS (nthS (nthS (nthS (nthS (nthS (nthS (nthS (nthS (nthS (nthS (nthS (nthS (nthS (nthS (nthS (nth0)))))))))))))))))))))))) (by kernel_rfl) (l' := #[true, true, true, true, true, true, true, true, true, true, true, true, true, true, true, true, true, true, true, true, true, true, true, true, true, false, false, false, false, false, false, false, false, false, false, false]) rfl ?_
  go_wp2_with fail
  refine (rlosses_any r A D ca cd flow frame fr to_ y6 (LA.out _ B6).1 hl1).mono ?_
  rintro e y7 ⟨hc7, vo7, vs7, rfl, o7, s7⟩
  obtain ⟨P7, k7, hv7⟩ := own_form o7
  subst hv7
  have o6k := Lib.hid (own_kept (w' := y7) o6h.out fun g cs hg h => h.below hc7 h.lt)
  have s6k := Lib.hid (s6h.out.kept (w' := y7) (Nat.le_refl _) fun g cs _ _ h => h.below hc7 h.lt)
  have o7h := Lib.hid o7
  have s7h := Lib.hid s7
  clear o7 s7 o6h s6h
  have B7 : Below M W1 y7 := B6.trans (hc7.mono Z6)
  have Z7 : M ≤ y7.heap.size := (HW.out _ B7).2
  have C7 : w3.heap.size ≤ y7.heap.size := Nat.le_trans C6 hc7.size
  go_wp2_with fail
  refine OneR_mk (hc7.mono C6) ?_
  refine anyR_one 25 _ (nthS (nthS (nthS (nthS (nthS (nthS (nthS (nthS (nthS (nthS (nthS (nthS (nthS (nthS (nthS (nthS (nthS (nthS (nthS (nthS (nthS (nthS (nthS (nthS (nthS (nth0)))))))))))))))))))))))))) (by kernel_rfl) (l' := #[true, true, true, true, true, true, true, true, true, true, true, true, true, true, true, true, true, true, true, true, true, true, true, true, true, true, false, false, false, false, false, false, false, false, false, false]) rfl ?_
  go_wp2_with fail
  refine (equalF_any _ _ vs6 vs7 P6 P7 k6 k7 _ _ _ _ _ _ y7 o6k.out o7h.out s6k.out s7h.out HLS.out.1 HLS.out.1 HLS.out.2 HLS.out.2).mono ?_
  rw [show decide (lossP r.al flow frame fr to_ = lossP r.al flow frame fr to_) = true by simp]
  rintro e y8 ⟨rfl, hc8⟩
  clear o6k s6k o7h s7h
  have B8 : Below M W1 y8 := B7.trans (hc8.mono Z7)
  have Z8 : M ≤ y8.heap.size := (HW.out _ B8).2
  have C8 : w3.heap.size ≤ y8.heap.size := Nat.le_trans C7 hc8.size
  go_wp2_with fail
  refine OneR_mk (hc8.mono C7) ?_
  refine anyR_take0 26 _ (nthS (nthS (nthS (nthS (nthS (nthS (nthS (nthS (nthS (nthS (nthS (nthS (nthS (nthS (nthS (nthS (nthS (nthS (nthS (nthS (nthS (nthS (nthS (nthS (nthS (nthS (nth0))))))))))))))))))))))))))) rfl (by kernel_rfl) (by kernel_rfl) (by kernel_rfl) (l' := #[true, true, true, true, true, true, true, true, true, true, true, true, true, true, true, true, true, true, true, true, true, true, true, true, true, true, true, false, false, false, false, false, false, false, false, false]) rfl rfl ?_; intro K hK; go_big_quiet_op; go_big_quiet_on
  refine anyR_take0 27 _ (nthS (nthS (nthS (nthS (nthS (nthS (nthS (nthS (nthS (nthS (nthS (nthS (nthS (nthS (nthS (nthS (nthS (nthS (nthS (nthS (nthS (nthS (nthS (nthS (nthS (nthS (nthS (nth0)))))))))))))))))))))))))))) rfl (by kernel_rfl) (by kernel_rfl) (by kernel_rfl) (l' := #[true, true, true, true, true, true, true, true, true, true, true, true, true, true, true, true, true, true, true, true, true, true, true, true, true, true, true, true, false, false, false, false, false, false, false, false]) rfl rfl ?_; intro K hK; go_big_quiet_op; go_big_quiet_on
  have x2 : ∀ (x : ExtW w3.heap.size y8) (i : Nat), x.val.cell? ⟨N, i, none⟩ = _ := (HRow.out _ B8).ext hN3
  refine anyR_take 28 _ (nthS (nthS (nthS (nthS (nthS (nthS (nthS (nthS (nthS (nthS (nthS (nthS (nthS (nthS (nthS (nthS (nthS (nthS (nthS (nthS (nthS (nthS (nthS (nthS (nthS (nthS (nthS (nthS (nth0))))))))))))))))))))))))))))) rfl (by kernel_rfl) (by kernel_rfl) (by kernel_rfl) (by kernel_rfl) (l' := #[true, true, true, true, true, true, true, true, true, true, true, true, true, true, true, true, true, true, true, true, true, true, true, true, true, true, true, true, true, false, false, false, false, false, false, false]) rfl rfl ?_; intro K hK; go_big_quiet_op; go_big_quiet_on
  clear x2
  have x2 : ∀ (x : ExtW w3.heap.size y8) (i : Nat), x.val.cell? ⟨N, i, none⟩ = _ := (HRow.out _ B8).ext hN3
  refine anyR_take 31 _ (nthS (nthS (nthS (nthS (nthS (nthS (nthS (nthS (nthS (nthS (nthS (nthS (nthS (nthS (nthS (nthS (nthS (nthS (nthS (nthS (nthS (nthS (nthS (nthS (nthS (nthS (nthS (nthS (nthS (nthS (nthS (nth0)))))))))))))))))))))))))))))))) rfl (by kernel_rfl) (by kernel_rfl) (by kernel_rfl) (by kernel_rfl) (l' := #[true, true, true, true, true, true, true, true, true, true, true, true, true, true, true, true, true, true, true, true, true, true, true, true, true, true, true, true, true, false, false, true, false, false, false, false]) rfl rfl ?_; intro K hK; go_big_quiet_op; go_big_quiet_on
  clear x2
  refine anyR_one 29 _ (nthS (nthS (nthS (nthS (nthS (nthS (nthS (nthS (nthS (nthS (nthS (nthS (nthS (nthS (nthS (nthS (nthS (nthS (nthS (nthS (nthS (nthS (nthS (nthS (nthS (nthS (nthS (nthS (nthS (nth0)))))))))))))))))))))))))))))) (by kernel_rfl) (l' := #[true, true, true, true, true, true, true, true, true, true, true, true, true, true, true, true, true, true, true, true, true, true, true, true, true, true, true, true, true, true, false, true, false, false, false, false]) rfl ?_
  go_wp2_with fail
  refine (cp_any r A D ca cd _ (LA.out _ B8).1 (LA.out _ B8).2 hl1 hl2 HnA.out HnD.out).mono ?_
  rintro e y9 ⟨hc9, A9, D9, ca9, cd9, rfl, oA9, oD9⟩
  have lA9 := own_A oA9
  have lD9 := own_D oD9
  clear oA9 oD9
  have B9 : Below M W1 y9 := B8.trans (hc9.mono Z8)
  have Z9 : M ≤ y9.heap.size := (HW.out _ B9).2
  have C9 : w3.heap.size ≤ y9.heap.size := Nat.le_trans C8 hc9.size
  go_wp2_with fail
  refine OneR_mk (hc9.mono C8) ?_
  refine anyR_one 30 _ (nthS (nthS (nthS (nthS (nthS (nthS (nthS (nthS (nthS (nthS (nthS (nthS (nthS (nthS (nthS (nthS (nthS (nthS (nthS (nthS (nthS (nthS (nthS (nthS (nthS (nthS (nthS (nthS (nthS (nthS (nth0))))))))))))))))))))))))))))))) (by kernel_rfl) (l' := #[true, true, true, true, true, true, true, true, true, true, true, true, true, true, true, true, true, true, true, true, true, true, true, true, true, true, true, true, true, true, true, true, false, false, false, false]) rfl ?_
  go_wp2_with fail
  refine (HC1.out y9 A9 D9 ca9 cd9 lA9).mono ?_
  rintro e y10 ⟨rfl, hc10⟩
  clear lA9 lD9
  have B10 : Below M W1 y10 := B9.trans (hc10.mono Z9)
  have Z10 : M ≤ y10.heap.size := (HW.out _ B10).2
  have C10 : w3.heap.size ≤ y10.heap.size := Nat.le_trans C9 hc10.size
  go_wp2_with fail
  refine OneR_mk (hc10.mono C9) ?_
  refine anyR_one 32 _ (nthS (nthS (nthS (nthS (nthS (nthS (nthS (nthS (nthS (nthS (nthS (nthS (nthS (nthS (nthS (nthS (nthS (nthS (nthS (nthS (nthS (nthS (nthS (nthS (nthS (nthS (nthS (nthS (nthS (nthS (nthS (nthS (nth0))))))))))))))))))))))))))))))))) (by kernel_rfl) (l' := #[true, true, true, true, true, true, true, true, true, true, true, true, true, true, true, true, true, true, true, true, true, true, true, true, true, true, true, true, true, true, true, true, true, false, false, false]) rfl ?_
  go_wp2_with fail
  refine (HC2.out y10 A D ca cd (LA.out _ B10).1).mono ?_
  rintro e y11 ⟨rfl, hc11⟩
  have B11 : Below M W1 y11 := B10.trans (hc11.mono Z10)
  have Z11 : M ≤ y11.heap.size := (HW.out _ B11).2
  have C11 : w3.heap.size ≤ y11.heap.size := Nat.le_trans C10 hc11.size
  go_wp2_with fail
  refine OneR_mk (hc11.mono C10) ?_
  refine anyR_take0 33 _ (nthS (nthS (nthS (nthS (nthS (nthS (nthS (nthS (nthS (nthS (nthS (nthS (nthS (nthS (nthS (nthS (nthS (nthS (nthS (nthS (nthS (nthS (nthS (nthS (nthS (nthS (nthS (nthS (nthS (nthS (nthS (nthS (nthS (nth0)))))))))))))))))))))))))))))))))) rfl (by kernel_rfl) (by kernel_rfl) (by kernel_rfl) (l' := #[true, true, true, true, true, true, true, true, true, true, true, true, true, true, true, true, true, true, true, true, true, true, true, true, true, true, true, true, true, true, true, true, true, true, false, false]) rfl rfl ?_; intro K hK; go_big_quiet_op; go_big_quiet_on
  refine anyR_take0 34 _ (nthS (nthS (nthS (nthS (nthS (nthS (nthS (nthS (nthS (nthS (nthS (nthS (nthS (nthS (nthS (nthS (nthS (nthS (nthS (nthS (nthS (nthS (nthS (nthS (nthS (nthS (nthS (nthS (nthS (nthS (nthS (nthS (nthS (nthS (nth0))))))))))))))))))))))))))))))))))) rfl (by kernel_rfl) (by kernel_rfl) (by kernel_rfl) (l' := #[true, true, true, true, true, true, true, true, true, true, true, true, true, true, true, true, true, true, true, true, true, true, true, true, true, true, true, true, true, true, true, true, true, true, true, false]) rfl rfl ?_; intro K hK; go_big_quiet_op; go_big_quiet_on
  refine anyR_take0 35 _ (nthS (nthS (nthS (nthS (nthS (nthS (nthS (nthS (nthS (nthS (nthS (nthS (nthS (nthS (nthS (nthS (nthS (nthS (nthS (nthS (nthS (nthS (nthS (nthS (nthS (nthS (nthS (nthS (nthS (nthS (nthS (nthS (nthS (nthS (nthS (nth0)))))))))))))))))))))))))))))))))))) rfl (by kernel_rfl) (by kernel_rfl) (by kernel_rfl) (l' := #[true, true, true, true, true, true, true, true, true, true, true, true, true, true, true, true, true, true, true, true, true, true, true, true, true, true, true, true, true, true, true, true, true, true, true, true]) rfl rfl ?_; intro K hK; go_big_quiet_op; go_big_quiet_on
  refine anyR_end (by kernel_rfl) ?_
  go_wp2_with fail
  go_ret
  exact ⟨rfl, by rw [← HN.out]; exact (HW.out _ B11).1⟩

end Go.Proofs.Ytllakkepphpfmaa
