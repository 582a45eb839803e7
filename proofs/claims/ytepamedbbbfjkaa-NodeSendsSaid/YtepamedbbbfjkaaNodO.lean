/- Holdings in memory of one's own; walks: own, copied, find of package node. -/
import Derived.Test.YtepamedbbbfjkaaNodI
namespace Go.Proofs.Ytepamedbbbfjkaa
open Go.RowKit
open Nd

/-- A holding's list of nodes is a row of one's own. -/
def OwnI (w : World) (base : Nat) (h : Ho) : Prop := w.ownsRow base 3 1 (.slice h.A h.ak.length h.c) h.ak.length (flatI h.ak) ∧ h.ak.length ≤ 1000000
/-- A slice of holdings in memory of one's own. -/
def OutH (w : World) (base : Nat) (v : Value) (l : List Ho) : Prop := w.ownsRow base 45 3 v l.length (l.flatMap Ho.row) ∧ ∀ h ∈ l, OwnI w base h
theorem OutH.nil (w : World) (base : Nat) : OutH w base (.slice none 0 0) [] := ⟨World.ownsRow_nil _ _ _ _, fun _ h => by cases h⟩
theorem OwnI.base {w : World} {b b' : Nat} {h : Ho} (x : OwnI w b h) (hb : b' ≤ b) : OwnI w b' h := ⟨own_base x.1 hb, x.2⟩
theorem OwnI.below {w w' : World} {b B : Nat} {h : Ho} (x : OwnI w b h) (hb : Below B w w') (hB : w.heap.size ≤ B) : OwnI w' b h := ⟨own_below x.1 hb hB, x.2⟩
theorem OutH.base {w : World} {b b' : Nat} {v : Value} {l : List Ho} (x : OutH w b v l) (hb : b' ≤ b) : OutH w b' v l := ⟨own_base x.1 hb, fun h hh => (x.2 h hh).base hb⟩
theorem OutH.below {w w' : World} {b B : Nat} {v : Value} {l : List Ho} (x : OutH w b v l) (hb : Below B w w') (hB : w.heap.size ≤ B) : OutH w' b v l := ⟨own_below x.1 hb hB, fun h hh => (x.2 h hh).below hb hB⟩
theorem OutH.lies {w : World} {b : Nat} {v : Value} {l : List Ho} (x : OutH w b v l) : ∃ A c, v = .slice A l.length c ∧ LiesH w w.heap.size A l := by
  obtain ⟨A, c, e, h1, _⟩ := own_lies (f := Ho.row) Ho.row_len x.1
  exact ⟨A, c, e, h1, fun h hh => ⟨own_I (x.2 h hh).1, (x.2 h hh).2⟩⟩
/-- The rows are turned, the lists of nodes stay. -/
theorem OutH.turn {w w' : World} {b : Nat} {v v' : Value} {l l' : List Ho} (x : OutH w b v l) (hg : w.grownBy w' v.ownBlock) (ho : w'.ownsRow b 45 3 v' l'.length (l'.flatMap Ho.row)) (hm : ∀ h ∈ l', OwnI w b h) : OutH w' b v' l' :=
  ⟨ho, fun h hh => ⟨(hm h hh).1.kept hg (own_apart (hm h hh).1 x.1 (by decide)), (hm h hh).2⟩⟩
theorem flatI_get2 (l : List Int) (j : Nat) : (flatI l)[j]? = (l[j]?).map (Value.int .i64) := by
  have : flatI l = l.map (Value.int .i64) := by
    unfold flatI
    induction l with
    | nil => rfl
    | cons x l ih => simp [irow, ih]
  rw [this, List.getElem?_map]
theorem own_setCell {w : World} {b : Nat} {e : TypeId} {s : Nat} {v : Value} {n : Nat} {x : List Value} (h : w.ownsRow b e s v n x) {g i : Nat} {u : Value} (hne : v.ownBlock ≠ some g) : (w.setCell ⟨g, i, none⟩ u).ownsRow b e s v n x :=
  h.kept (row := some g) ⟨rfl, rfl, rfl, by simp, fun k _ hk' => Below.heap_setCell w ⟨g, i, none⟩ u k (fun e => hk' (by rw [e]))⟩ (.inr hne)
theorem flat_snoc (l : List Ho) (h : Ho) : (l ++ [h]).flatMap Ho.row = l.flatMap Ho.row ++ h.row := by simp

set_option maxRecDepth 100000 in
set_option maxHeartbeats 2000000 in
theorem own_any (h : Ho) (w : World) (hI : LiesI w w.heap.size h.A h.ak) (hm : h.ak.length ≤ 1000000) :
    Calls Try.prog 41 #[.agg #[.int .i64 h.fl, .int .i64 h.fr, .slice h.A h.ak.length h.c]] w fun e w' => Below w.heap.size w w' ∧ ∃ h' : Ho, h'.d = h.d ∧ e = .returned (.agg #[.int .i64 h'.fl, .int .i64 h'.fr, .slice h'.A h'.ak.length h'.c]) ∧ OwnI w' w.heap.size h' := by
  obtain ⟨fl, fr, ak, A, c⟩ := h
  dsimp only at *
  obtain ⟨i0, hi0, hz0, hz1, hz2⟩ := info_parts Try.infoI
  obtain ⟨q, hq⟩ : ∃ q, q = ak.length := ⟨_, rfl⟩
  have HI := Lib.hid (fun W (h : Below w.heap.size w W) => hI.below h)
  have HQ := Lib.hid hq
  have hsz : (Try.prog.info? 3).map (·.size) = some 1 := by rw [hi0]; simp [hz1]
  rw [← hq] at hm ⊢
  clear hq hI
  obtain ⟨N, hN⟩ : ∃ N, N = w.heap.size := ⟨_, rfl⟩
  have HN := Lib.hid hN
  go_enter Try.func41, Try.ntmps41
  go_wp2_with fail
  rename_i hK
  generalize hW1 : World.alloc _ _ = W1
  have bB : Blk W1 N 45 [.int .i64 fl, .int .i64 fr, .slice A q c] := by rw [← hW1, hN]; exact Blk.alloc (Blk.new2 _ [.int .i64 fl, .int .i64 fr, .slice A q c] rfl) _
  have bR : Blk W1 (N + 1) 45 [.int .i64 0, .int .i64 0, .slice none 0 0] := by rw [← hW1]; exact Blk.new2 _ [.int .i64 0, .int .i64 0, .slice none 0 0] (by simp [hN])
  have hb1 : Below N w W1 := by rw [← hW1, hN]; exact ((Below.refl _ _).alloc (Nat.le_refl _) _).alloc (by simp) _
  rw [← hN]
  have hz1' : N + 1 < W1.heap.size := bR.lt
  clear hW1 hN
  obtain ⟨W2, hmk, ho2, hg2⟩ := run_make_full (P := Try.prog) W1 N 43 3 i0 (.int .i64 0) 1 Try.underlying43 hi0 hz0 hz1 .i64 .i64 q (by rw [hz2]; omega) (by unfold maxLen; omega) (by omega)
  have hb2 : Below W1.heap.size W1 W2 := ⟨hg2.os, hg2.tape, hg2.output, hg2.size, fun k hk => hg2.block k hk (by simp)⟩
  rw [hmk]
  simp only [Result.andThen_ok, Oper.upon_value]
  refine hK _ _ ?_
  clear hK hmk hg2
  have bB2 := bB.below hb2 (by omega)
  have bR2 := bR.below hb2 (by omega)
  have hB2 : Below N w W2 := hb1.trans (hb2.mono (by omega))
  obtain ⟨g, hgg⟩ : ∃ g, g = W1.heap.size := ⟨_, rfl⟩
  rw [← hgg] at ho2 ⊢
  have hgN : N + 1 < g := by omega
  clear hgg hz1'
  rcases ho2.2 with ⟨h', _⟩ | ⟨g', cap', cur, h', hgb, hgh, _, _, hcs, _⟩
  · cases h'
  simp only [Value.slice.injEq, Option.some.injEq, Addr.mk.injEq, and_true, true_and] at h'
  obtain ⟨rfl, rfl⟩ := h'
  -- the copy
  have hcopy : ∃ W3, (∀ ty, (Builtin.copy_ #[43, 43] ty #[.slice (some ⟨g, 0, none⟩) q q, .slice A q c]).run Try.prog W2 = .ok (goInt q) W3) ∧ W3.ownsRow N 3 1 (.slice (some ⟨g, 0, none⟩) q q) q (flatI ak) ∧ W2.grownBy W3 (some g) := by
    by_cases h0 : q = 0
    · subst h0
      have hak : ak = [] := List.eq_nil_of_length_eq_zero HQ.out.symm
      refine ⟨W2, fun ty => run_copy_none (P := Try.prog) W2 43 43 ty 3 _ _ 0 0 0 c Try.underlying43 hsz rfl, ?_, World.grownBy.refl _ _⟩
      rw [hak]
      exact ⟨rfl, .inr ⟨g, 0, cur, rfl, by omega, hgh, Nat.le_refl _, by unfold maxLen; omega, hcs, by simp [flatI]⟩⟩
    · obtain ⟨y, hy⟩ := get_of_lt (l := ak) (k := 0) (by rw [← HQ.out]; omega)
      obtain ⟨b, off, rfl, _, hc⟩ := (HI.out W2 (by rw [← HN.out]; exact hB2)).at_ hy
      have hfl : (flatI ak).length = q := by rw [flatI_len, HQ.out]
      have hrun := fun ty => run_copy_own (P := Try.prog) W2 43 43 ty 3 i0 1 Try.underlying43 hi0 hz1 g 0 q q ⟨b, off, none⟩ q c cur 3 (flatI ak) q hgh (Nat.min_self q) (by rw [hfl]; omega) (fun j u hu => by
        rw [add_any]
        cases hj : ak[j]? with
        | none => rw [flatI_get2, hj] at hu; cases hu
        | some z =>
          rw [flatI_get2, hj] at hu
          injection hu with hu
          rw [← hu]
          exact hc j z hj) (by rw [hfl, hcs]; omega) (flatI_one ak)
      have erow : (cur.toList.take 0 ++ flatI ak ++ cur.toList.drop (0 + (flatI ak).length)).toArray = (flatI ak).toArray := by
        rw [List.take_zero, List.nil_append, List.drop_of_length_le (by rw [hfl, Array.length_toList, hcs]; omega), List.append_nil]
      rw [erow] at hrun
      refine ⟨_, hrun, ⟨by rw [hfl]; omega, .inr ⟨g, q, _, rfl, by omega, setRow_heap W2 g cur _ 3 _ hgh, Nat.le_refl _, by unfold maxLen; omega, by simp [hfl], by show (flatI ak).take (q * 1) = _; exact List.take_of_length_le (by rw [hfl]; omega)⟩⟩, grown_setRow _ _ _⟩
  obtain ⟨W3, hcp, ho3, hg3⟩ := hcopy
  have HCP := Lib.hid hcp
  have bB3 : Blk W3 N 45 _ := (hg3.block N (by have := bB2.lt; omega) (by intro e; injection e with e; omega)).trans bB2
  have bR3 : Blk W3 (N + 1) 45 _ := (hg3.block (N + 1) (by have := bR2.lt; omega) (by intro e; injection e with e; omega)).trans bR2
  have hB3 : Below N w W3 := hB2.trans ⟨hg3.os, hg3.tape, hg3.output, hg3.size, fun k hk => hg3.block k (by have := bB2.lt; omega) (by intro e; injection e with e; omega)⟩
  have c2 := bB2.row
  unfold Row at c2
  have HO3 := Lib.hid ho3
  have HB3 := Lib.hid hB3
  clear hcp ho3 hg3 hgh hcs hgb ho2 hi0 hz0 hz1 hz2 hsz hb1 hb2 hB2 bB bR bB2 bR2 hB3
  go_wp2_with fail
  rename_i hK
  rw [HCP.out]
  simp only [Result.andThen_ok, Oper.upon_value]
  refine hK _ _ ?_
  clear hK HCP c2
  have c3 := bB3.row
  have f3 := bB3.frozen
  unfold Row at c3
  have hne1 : ¬ N = N + 1 := by omega
  have hne2 : ¬ N + 1 = N := by omega
  by_cases h0 : q = 0
  · subst h0
    have b4 := bB3.set_ 2 (.slice (some ⟨g, 0, none⟩) 0 0)
    have b5 := b4.set_ 2 (.slice none 0 0)
    simp only [List.set_cons_zero, List.set_cons_succ] at b4 b5
    have br5 := (bR3.far (p := ⟨N, 2, none⟩) (by dsimp only; omega) (.slice (some ⟨g, 0, none⟩) 0 0)).far (p := ⟨N, 2, none⟩) (by dsimp only; omega) (.slice none 0 0)
    have br8 := ((br5.set_ 0 (.int .i64 fl)).set_ 1 (.int .i64 fr)).set_ 2 (.slice none 0 0)
    simp only [List.set_cons_zero, List.set_cons_succ] at br8
    have c4 := b4.row
    have f4 := b4.frozen
    have c5 := b5.row
    have cr5 := br5.row
    have fr5 := br5.frozen
    have C8 := Lib.hid br8.row
    unfold Row at c4 c5 cr5
    have HW := Lib.hid (((((HB3.out.setCell (p := ⟨N, 2, none⟩) (Nat.le_refl _) (.slice (some ⟨g, 0, none⟩) 0 0)).setCell (p := ⟨N, 2, none⟩) (Nat.le_refl _) (.slice none 0 0)).setCell (p := ⟨N + 1, 0, none⟩) (by dsimp only; omega) (.int .i64 fl)).setCell (p := ⟨N + 1, 1, none⟩) (by dsimp only; omega) (.int .i64 fr)).setCell (p := ⟨N + 1, 2, none⟩) (by dsimp only; omega) (.slice none 0 0))
    have hak : Hid (ak = []) := Lib.hid (List.eq_nil_of_length_eq_zero HQ.out.symm)
    clear b4 b5 br5 br8 bB3 bR3 HO3 HB3
    go_wp2_with fail
    have c8 := C8.out
    unfold Row at c8
    refine bodyPost_ret (v := .agg #[.int .i64 fl, .int .i64 fr, .slice none 0 0]) (by simp [results, Try.results41, go_sem, c8]) rfl ?_
    exact ⟨by rw [← HN.out]; exact HW.out, ⟨fl, fr, [], none, 0⟩, by rw [hak.out]; rfl, rfl, World.ownsRow_nil _ _ _ _, Nat.zero_le _⟩
  · have b4 := bB3.set_ 2 (.slice (some ⟨g, 0, none⟩) q q)
    simp only [List.set_cons_zero, List.set_cons_succ] at b4
    have br5 := bR3.far (p := ⟨N, 2, none⟩) (by dsimp only; omega) (.slice (some ⟨g, 0, none⟩) q q)
    have br8 := ((br5.set_ 0 (.int .i64 fl)).set_ 1 (.int .i64 fr)).set_ 2 (.slice (some ⟨g, 0, none⟩) q q)
    simp only [List.set_cons_zero, List.set_cons_succ] at br8
    have c4 := b4.row
    have cr5 := br5.row
    have fr5 := br5.frozen
    have C8 := Lib.hid br8.row
    unfold Row at c4 cr5
    have HW := Lib.hid ((((HB3.out.setCell (p := ⟨N, 2, none⟩) (Nat.le_refl _) (.slice (some ⟨g, 0, none⟩) q q)).setCell (p := ⟨N + 1, 0, none⟩) (by dsimp only; omega) (.int .i64 fl)).setCell (p := ⟨N + 1, 1, none⟩) (by dsimp only; omega) (.int .i64 fr)).setCell (p := ⟨N + 1, 2, none⟩) (by dsimp only; omega) (.slice (some ⟨g, 0, none⟩) q q))
    have HO8 := Lib.hid ((((own_setCell HO3.out (g := N) (i := 2) (u := .slice (some ⟨g, 0, none⟩) q q) (by simp [Value.ownBlock]; omega)) |> fun h => own_setCell h (g := N + 1) (i := 0) (u := .int .i64 fl) (by simp [Value.ownBlock]; omega)) |> fun h => own_setCell h (g := N + 1) (i := 1) (u := .int .i64 fr) (by simp [Value.ownBlock]; omega)) |> fun h => own_setCell h (g := N + 1) (i := 2) (u := .slice (some ⟨g, 0, none⟩) q q) (by simp [Value.ownBlock]; omega))
    have hq0 : ((q : Int) == 0) = false := by rw [beq_eq_false_iff_ne]; omega
    clear b4 br5 br8 bB3 bR3 HO3 HB3
    go_wp2_with fail
    have c8 := C8.out
    unfold Row at c8
    refine bodyPost_ret (v := .agg #[.int .i64 fl, .int .i64 fr, .slice (some ⟨g, 0, none⟩) q q]) (by simp [results, Try.results41, go_sem, c8]) rfl ?_
    refine ⟨by rw [← HN.out]; exact HW.out, ⟨fl, fr, ak, some ⟨g, 0, none⟩, q⟩, rfl, ?_, ?_, ?_⟩
    · dsimp only; rw [← HQ.out]
    · dsimp only; rw [← HQ.out, ← HN.out]; exact HO8.out
    · dsimp only; rw [← HQ.out]; exact hm
end Go.Proofs.Ytepamedbbbfjkaa
