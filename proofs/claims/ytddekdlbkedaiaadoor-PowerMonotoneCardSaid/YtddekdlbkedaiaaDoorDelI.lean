/- The walk of slices.Delete at []int: one element of a row of one's own. -/
import Derived.Test.YtddekdlbkedaiaaDoorRoom
import Derived.Test.YtddekdlbkedaiaaDoorPow9
namespace Go.Proofs.YtddekdlbkedaiaaDoor
open Go.RowKit

theorem flatI_get (l : List Int) (j : Nat) : (flatI l)[j]? = (l[j]?).map (Value.int .i64) := by
  have : flatI l = l.map (Value.int .i64) := by
    unfold flatI
    induction l with
    | nil => rfl
    | cons x l ih => simp [irow, ih]
  rw [this, List.getElem?_map]
theorem flatI_map (l : List Int) : flatI l = l.map (Value.int .i64) := by
  unfold flatI
  induction l with
  | nil => rfl
  | cons x l ih => simp [irow, ih]
set_option maxRecDepth 100000 in
set_option maxHeartbeats 2000000 in
theorem delete1_any (l : List Int) (k base : Nat) (v : Value) (w : World) (ho : w.ownsRow base 3 1 v l.length (flatI l)) (hk : k < l.length) (hl : l.length ≤ 1000000) :
    Calls Tryd.prog 26 #[v, .int .i64 k, .int .i64 ((k : Int) + 1)] w fun e w' => Below base w w' ∧ ∃ v', e = .returned v' ∧ w'.ownsRow base 3 1 v' (l.eraseIdx k).length (flatI (l.eraseIdx k)) := by
  obtain ⟨i0, hi0, hz0, hz1, hz2⟩ := info_parts Tryd.infoInt
  have ho' := ho
  rcases ho.2 with ⟨_, h0⟩ | ⟨g, cap, cur, rfl, hb, hg, hnc, hcm, hcs, htake⟩
  · omega
  obtain ⟨n, hn⟩ : ∃ n, n = l.length := ⟨_, rfl⟩
  rw [← hn] at ho' htake hnc hk hl ⊢
  obtain ⟨news, hnews⟩ : ∃ news, news = flatI (l.drop (k + 1)) := ⟨_, rfl⟩
  have hnl : news.length = (n - (k + 1)) * 1 := by rw [hnews, flatI_len, List.length_drop]; omega
  have hcl : ∀ j u, (flatI l)[j]? = some u → w.cell? ⟨g, j, none⟩ = some u := fun j u hu => by
    have := ho.cells (g := g) rfl j u hu
    rwa [add_off] at this
  obtain ⟨A, hA, hsrc⟩ : ∃ A : Addr, (if cap = k + 1 then some (⟨g, 0, none⟩ : Addr) else some ⟨g, k + 1, none⟩) = some A ∧ Hid (∀ j u, news[j]? = some u → w.drew.cell? (A.add j) = some u) := by
    by_cases h : cap = k + 1
    · refine ⟨⟨g, 0, none⟩, by simp [h], Lib.hid fun j u hu => ?_⟩
      have h0 : news.length = 0 := by rw [hnl]; omega
      rw [List.length_eq_zero_iff.1 h0] at hu
      simp at hu
    · refine ⟨⟨g, k + 1, none⟩, by simp [h], Lib.hid fun j u hu => ?_⟩
      rw [add_any]
      refine hcl _ _ ?_
      rw [hnews, flatI_get, List.getElem?_drop] at hu
      rw [flatI_get]; exact hu
  have hrun := fun ty => run_append_room_own (P := Tryd.prog) w.drew 32 ty 3 i0 1 Tryd.underlying32 hi0 hz1 g k cap cur hg hcs A (n - (k + 1)) (cap - (k + 1)) news hnl hsrc.out (by rw [hnews]; exact flatI_one _) (by omega)
  obtain ⟨row, hrow⟩ : ∃ row, row = (cur.toList.take (k * 1) ++ news ++ cur.toList.drop (k * 1 + news.length)).toArray := ⟨_, rfl⟩
  rw [← hrow] at hrun
  have hrs : row.size = cap * 1 := by rw [hrow]; simp; omega
  -- the row behind the append: n elements, the last one as it was
  have hown1 : (w.drew.setRow g row).ownsRow base 3 1 (.slice (some ⟨g, 0, none⟩) n cap) n (row.toList.take (n * 1)) :=
    ⟨by rw [List.length_take, Array.length_toList, hrs]; omega, .inr ⟨g, cap, row, rfl, hb, setRow_heap w.drew g cur row 3 _ hg, hnc, hcm, hrs, rfl⟩⟩
  obtain ⟨w2, hclr, hown2, hgr2⟩ := run_clear_own (P := Tryd.prog) (w.drew.setRow g row) 32 3 i0 (.int .i64 0) 1 Tryd.underlying32 hi0 hz0 rfl (by decide) (by simp [Value.cells, Value.oneCell']) base g n cap (n - 1) (cap - (n - 1)) _ hown1 (by omega)
  have hgs : g < (w.drew.setRow g row).heap.size := heap_lt (setRow_heap w.drew g cur row 3 (0, 0) hg)
  have hb2 : Below base w w2 := Below.grown_own ((Below.refl base w).drew.trans (below_setRow _ row hb)) hgr2 (by omega) hb
  clear hgs
  have hfin : w2.ownsRow base 3 1 (.slice (some ⟨g, 0, none⟩) (n - 1) cap) (l.eraseIdx k).length (flatI (l.eraseIdx k)) := by
    have e1 : (l.eraseIdx k).length = n - 1 := by rw [List.length_eraseIdx, if_pos (by omega)]; omega
    have e2 : (row.toList.take (n * 1)).take ((n - 1) * 1) = flatI (l.eraseIdx k) := by
      have hk1 : (cur.toList.take k) = flatI (l.take k) := by
        have : cur.toList.take k = (cur.toList.take (n * 1)).take k := by rw [List.take_take, Nat.min_eq_left (by omega)]
        rw [this, htake, flatI_map, flatI_map, List.map_take]
      rw [List.take_take, Nat.min_eq_left (by omega), hrow]
      simp only [Nat.mul_one, hk1]
      rw [List.take_append_of_le_length (by simp [flatI_len, hnl]; omega), List.take_of_length_le (by simp [flatI_len, hnl]; omega), hnews, List.eraseIdx_eq_take_drop_succ, flatI_map, flatI_map, flatI_map, List.map_append]
    rw [e1, ← e2]; exact hown2
  have HB := Lib.hid hb2
  have HF := Lib.hid hfin
  have hn1 : k + (n - (k + 1)) = n - 1 := by omega
  rw [hn1] at hrun
  have HR := Lib.hid hrun
  have HC := Lib.hid hclr
  simp only [Nat.mul_one, show n - (n - 1) = 1 by omega] at HC
  have hkc : k ≤ cap := by omega
  have hk1c : k + 1 ≤ cap := by omega
  have hk1n : k + 1 ≤ n := by omega
  have hwr : IntKind.i64.wrap ((k : Int) + 1) = (k : Int) + 1 := by rw [IntKind.wrap_i64]; omega
  have hp0 : (0 : Int) ≤ (k : Int) + 1 := by omega
  have hp1 : (k : Int) + 1 ≤ (n : Int) := by omega
  have hp2 : ((k : Int) + 1).toNat = k + 1 := by omega
  have hq1 : ((k : Int) == (k : Int) + 1) = false := by simp; omega
  have hq2 : n - 1 ≤ n := by omega
  have hq3 : n - (n - 1) = 1 := by omega
  have hq4 : ¬ (cap = n - 1) := by omega
  have HNN := Lib.hid hn
  clear hn
  clear hb2 hfin hrun hclr hgr2 hown2 hown1 hcl hsrc hnl hnews hrow hrs hcs htake hg ho ho' hi0 hz0 hz1 hz2 hn1
  go_enter Tryd.func26, Tryd.ntmps26
  go_wp2_with fail
  go_region_law (refine step_append_run rfl (.tmp 22) (.tmp 25) 32 rfl _ _ (by simp [Act.eval, Act.put]) (by simp [Act.eval, Act.put]) (HR.out _) ?_)
  go_wp2_with fail
  rename_i hK
  rw [HC.out]
  simp only [Result.andThen_ok, Oper.upon_value]
  refine hK _ _ ?_
  go_wp2_with fail
  go_ret
  exact ⟨HB.out, _, rfl, HF.out⟩
end Go.Proofs.YtddekdlbkedaiaaDoor
