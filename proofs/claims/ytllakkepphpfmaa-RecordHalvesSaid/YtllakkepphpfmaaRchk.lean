/- Walks: in, attempt, keys, less of the reference. -/
import Derived.Test.YtllakkepphpfmaaCheck
import Derived.Test.YtllakkepphpfmaaFloat
namespace Go.Proofs.Ytllakkepphpfmaa
open Go.RowKit
open Rc

theorem in_any (n lo hi : Int) (w : World) : Calls Try.prog 48 #[.int .i64 n, .int .i64 lo, .int .i64 hi] w fun e w' => e = .returned (.bool (inB n lo hi)) ∧ w = w' := by
  go_enter Try.func48, Try.ntmps48
  by_cases h : lo ≤ n
  · go_wp2
    go_ret
    simp [h, inB]
  · go_wp2
    go_ret
    simp [inB]; omega

set_option maxHeartbeats 1000000 in
theorem rattempt_any (slots : Int) (x1 x2 : Value) (a : Att) (w : World) (h0 : 0 ≤ slots) (h1 : slots ≤ 4096) : Calls Try.prog 49 #[.agg #[.int .i64 slots, x1, x2], .agg #[.int .i64 a.s, .int .i64 a.f, .int .i64 a.cs, .int .i64 a.co, .int .i64 a.cf, .int .i64 a.ct, .int .i64 a.cl, .int .i64 a.o]] w fun e w' => e = .returned (.bool (attR slots a)) ∧ Below w.heap.size w w' := by
  obtain ⟨s, f, cs, co, cf, ct, cl, o⟩ := a
  go_enter Try.func49, Try.ntmps49
  go_wp2_with (go_at_call 48; refine (in_any _ _ _ _).mono ?_; rintro e w' ⟨rfl, rfl⟩)
  all_goals
    go_ret
    exact ⟨ret_bool (by first | (simp [attR, *]; done) | (simp [attR, bne, *]; done)), by repeat (first | exact Below.refl _ _ | refine Below.alloc ?_ (by simp; try omega) _ )⟩

theorem keys_any (a : Att) (w : World) : Calls Try.prog 64 #[.agg #[.int .i64 a.s, .int .i64 a.f, .int .i64 a.cs, .int .i64 a.co, .int .i64 a.cf, .int .i64 a.ct, .int .i64 a.cl, .int .i64 a.o]] w fun e w' => e = .returned (.agg #[.int .i64 a.s, .int .i64 a.cs, .int .i64 a.co, .int .i64 a.cf, .int .i64 a.ct, .int .i64 a.cl]) ∧ Below w.heap.size w w' := by
  obtain ⟨s, f, cs, co, cf, ct, cl, o⟩ := a
  go_enter Try.func64, Try.ntmps64
  go_wp2
  exact bodyPost_ret (v := .agg #[.int .i64 s, .int .i64 cs, .int .i64 co, .int .i64 cf, .int .i64 ct, .int .i64 cl]) (by simp [results, Try.results64, go_sem]) rfl ⟨rfl, ((Below.refl _ _).alloc (Nat.le_refl _) _).alloc (by simp) _⟩

def fl50 : Nat → Option (Tmp × Obj)
  | 4 => some (5, .cells #[.int .i64 0, .int .i64 0, .int .i64 0, .int .i64 0, .int .i64 0, .int .i64 0] 98)
  | 5 => some (6, .cells #[.int .i64 0, .int .i64 0, .int .i64 0, .int .i64 0, .int .i64 0, .int .i64 0] 98)
  | _ => none
set_option maxRecDepth 100000 in
set_option maxHeartbeats 2000000 in
theorem less_any (x y : Att) (w : World) : Calls Try.prog 50 #[.agg #[.int .i64 x.s, .int .i64 x.f, .int .i64 x.cs, .int .i64 x.co, .int .i64 x.cf, .int .i64 x.ct, .int .i64 x.cl, .int .i64 x.o], .agg #[.int .i64 y.s, .int .i64 y.f, .int .i64 y.cs, .int .i64 y.co, .int .i64 y.cf, .int .i64 y.ct, .int .i64 y.cl, .int .i64 y.o]] w
    fun e w' => e = .returned (.bool (lessA x y)) ∧ Below w.heap.size w w' := by
  have kx := fun W => keys_any x W
  have ky := fun W => keys_any y W
  have Kx := Lib.hid kx
  have Ky := Lib.hid ky
  clear kx ky
  go_enter Try.func50, Try.ntmps50
  go_upto_region 1 with fail
  generalize hW1 : World.alloc _ _ = W1
  have hb1 : Below w.heap.size w W1 := by rw [← hW1]; exact ((Below.refl _ _).alloc (Nat.le_refl _) _).alloc (by simp) _
  have r2 : Row W1 w.heap.size [.int .i64 x.s, .int .i64 x.f, .int .i64 x.cs, .int .i64 x.co, .int .i64 x.cf, .int .i64 x.ct, .int .i64 x.cl, .int .i64 x.o] := by rw [← hW1]; exact (Row.new _ _ _).alloc (by simp) _
  have r3 : Row W1 (w.heap.size + 1) [.int .i64 y.s, .int .i64 y.f, .int .i64 y.cs, .int .i64 y.co, .int .i64 y.cf, .int .i64 y.ct, .int .i64 y.cl, .int .i64 y.o] := by rw [← hW1]; exact Row.new' _ _ (by simp)
  have hz1 : w.heap.size + 2 ≤ W1.heap.size := by rw [← hW1]; simp
  clear hW1
  go_cut [5, 6] (fun s5 s6 W => ∃ g5 g6 : Nat, s5 = .pointer (some ⟨g5, 0, none⟩) ∧ s6 = .pointer (some ⟨g6, 0, none⟩) ∧ Below W1.heap.size W1 W ∧ Row W g5 [.int .i64 x.s, .int .i64 x.cs, .int .i64 x.co, .int .i64 x.cf, .int .i64 x.ct, .int .i64 x.cl] ∧ Row W g6 [.int .i64 y.s, .int .i64 y.cs, .int .i64 y.co, .int .i64 y.cf, .int .i64 y.ct, .int .i64 y.cl])
  case first =>
    have c2 := r2
    have c3 := r3
    unfold Row at c2 c3
    --GEN
    have x2 : ∀ (x : ExtW W1.heap.size W1.drew) (i : Nat), x.val.cell? ⟨w.heap.size, i, none⟩ = _ := (r2.drew).ext (by omega)
    have x3 : ∀ (x : ExtW W1.heap.size W1.drew) (i : Nat), x.val.cell? ⟨w.heap.size + 1, i, none⟩ = _ := (r3.drew).ext (by omega)
    refine wp_region_float (W1.heap.size) 6 #[false, false, false, false, false, false, false, false] fl50 (by kernel_rfl) (Nat.le_refl _) ⟨by kernel_rfl, by kernel_rfl, by kernel_rfl, by decide, fun i d ob h => by unfold fl50 at h; split at h <;> first | (cases h; exact ⟨_, rfl, rfl, rfl, fun _ _ => by kernel_rfl⟩) | cases h⟩ rfl ?_; intro Hok
    refine FS_plain 0 _ (nth0) rfl Hok (by kernel_rfl) (by kernel_rfl) (l' := #[true, false, false, false, false, false, false, false]) rfl rfl (by decide) rfl ?_; intro K hK; go_big_quiet_op; go_big_quiet_on
    refine FS_call 1 _ (nthS (nth0)) Hok (Nat.le_refl _) (by kernel_rfl) (by kernel_rfl) (l' := #[true, true, false, false, false, false, false, false]) rfl rfl (by decide) rfl (fun _ => by kernel_rfl) (fun x => Kx.out x.val) ?_; simp only [Act.put, List.setIfInBounds_toArray, List.set_cons_succ, List.set_cons_zero]
    refine FS_plain 2 _ (nthS (nthS (nth0))) rfl Hok (by kernel_rfl) (by kernel_rfl) (l' := #[true, true, true, false, false, false, false, false]) rfl rfl (by decide) rfl ?_; intro K hK; go_big_quiet_op; go_big_quiet_on
    refine FS_call 3 _ (nthS (nthS (nthS (nth0)))) Hok (Nat.le_refl _) (by kernel_rfl) (by kernel_rfl) (l' := #[true, true, true, true, false, false, false, false]) rfl rfl (by decide) rfl (fun _ => by kernel_rfl) (fun x => Ky.out x.val) ?_; simp only [Act.put, List.setIfInBounds_toArray, List.set_cons_succ, List.set_cons_zero]
    refine FS_float2 4 5 5 6 _ _ (by kernel_rfl) (l1 := #[true, true, true, true, true, false, false, false]) (l2 := #[true, true, true, true, false, true, false, false]) rfl rfl rfl rfl (by decide) (by decide) ?_ ?_
    · intro g5 hg5 _
      refine FS_float 5 6 _ (by kernel_rfl) (l' := #[true, true, true, true, true, true, false, false]) rfl rfl (by decide) ?_
      intro g6 hg6 hne
      refine FS_end (by kernel_rfl) ?_
      intro W hW hG
      simp only [Act.put, List.setIfInBounds_toArray, List.set_cons_succ, List.set_cons_zero, List.drop_succ_cons, List.drop_zero]
      have b5 : Blk W g5 98 [.int .i64 0, .int .i64 0, .int .i64 0, .int .i64 0, .int .i64 0, .int .i64 0] := hG _ _ (by simp)
      have b6 : Blk W g6 98 [.int .i64 0, .int .i64 0, .int .i64 0, .int .i64 0, .int .i64 0, .int .i64 0] := hG _ _ (by simp)
      have hne' : g5 ≠ g6 := by exact fun h => hne g5 _ (List.mem_cons_self) h.symm
      clear hne hG Hok x2 x3 c2 c3
      have e5 := b5.row
      have e6 := b6.row
      have q5 := b5.frozen
      have q6 := b6.frozen
      unfold Row at e5 e6
      have hne2 : ¬ g6 = g5 := fun h => hne' h.symm
      go_wp2_with fail
      go_meet
      exact ⟨g5, g6, rfl, rfl, (((((((((((((((Below.refl _ _).drew).trans hW).setCell (p := ⟨_, 0, none⟩) hg5 _).setCell (p := ⟨_, 1, none⟩) hg5 _).setCell (p := ⟨_, 2, none⟩) hg5 _).setCell (p := ⟨_, 3, none⟩) hg5 _).setCell (p := ⟨_, 4, none⟩) hg5 _).setCell (p := ⟨_, 5, none⟩) hg5 _).setCell (p := ⟨_, 0, none⟩) hg6 _).setCell (p := ⟨_, 1, none⟩) hg6 _).setCell (p := ⟨_, 2, none⟩) hg6 _).setCell (p := ⟨_, 3, none⟩) hg6 _).setCell (p := ⟨_, 4, none⟩) hg6 _).setCell (p := ⟨_, 5, none⟩) hg6 _), ((((((((((((b5.set_ 0 _).set_ 1 _).set_ 2 _).set_ 3 _).set_ 4 _).set_ 5 _).far (p := ⟨_, 0, none⟩) hne' _).far (p := ⟨_, 1, none⟩) hne' _).far (p := ⟨_, 2, none⟩) hne' _).far (p := ⟨_, 3, none⟩) hne' _).far (p := ⟨_, 4, none⟩) hne' _).far (p := ⟨_, 5, none⟩) hne' _).row, ((((((((((((b6.far (p := ⟨_, 0, none⟩) hne2 _).far (p := ⟨_, 1, none⟩) hne2 _).far (p := ⟨_, 2, none⟩) hne2 _).far (p := ⟨_, 3, none⟩) hne2 _).far (p := ⟨_, 4, none⟩) hne2 _).far (p := ⟨_, 5, none⟩) hne2 _).set_ 0 _).set_ 1 _).set_ 2 _).set_ 3 _).set_ 4 _).set_ 5 _).row⟩
    · intro g6 hg6 _
      refine FS_float 4 5 _ (by kernel_rfl) (l' := #[true, true, true, true, true, true, false, false]) rfl rfl (by decide) ?_
      intro g5 hg5 hne
      refine FS_end (by kernel_rfl) ?_
      intro W hW hG
      simp only [Act.put, List.setIfInBounds_toArray, List.set_cons_succ, List.set_cons_zero, List.drop_succ_cons, List.drop_zero]
      have b5 : Blk W g5 98 [.int .i64 0, .int .i64 0, .int .i64 0, .int .i64 0, .int .i64 0, .int .i64 0] := hG _ _ (by simp)
      have b6 : Blk W g6 98 [.int .i64 0, .int .i64 0, .int .i64 0, .int .i64 0, .int .i64 0, .int .i64 0] := hG _ _ (by simp)
      have hne' : g5 ≠ g6 := by exact hne g6 _ (List.mem_cons_self)
      clear hne hG Hok x2 x3 c2 c3
      have e5 := b5.row
      have e6 := b6.row
      have q5 := b5.frozen
      have q6 := b6.frozen
      unfold Row at e5 e6
      have hne2 : ¬ g6 = g5 := fun h => hne' h.symm
      go_wp2_with fail
      go_meet
      exact ⟨g5, g6, rfl, rfl, (((((((((((((((Below.refl _ _).drew).trans hW).setCell (p := ⟨_, 0, none⟩) hg5 _).setCell (p := ⟨_, 1, none⟩) hg5 _).setCell (p := ⟨_, 2, none⟩) hg5 _).setCell (p := ⟨_, 3, none⟩) hg5 _).setCell (p := ⟨_, 4, none⟩) hg5 _).setCell (p := ⟨_, 5, none⟩) hg5 _).setCell (p := ⟨_, 0, none⟩) hg6 _).setCell (p := ⟨_, 1, none⟩) hg6 _).setCell (p := ⟨_, 2, none⟩) hg6 _).setCell (p := ⟨_, 3, none⟩) hg6 _).setCell (p := ⟨_, 4, none⟩) hg6 _).setCell (p := ⟨_, 5, none⟩) hg6 _), ((((((((((((b5.set_ 0 _).set_ 1 _).set_ 2 _).set_ 3 _).set_ 4 _).set_ 5 _).far (p := ⟨_, 0, none⟩) hne' _).far (p := ⟨_, 1, none⟩) hne' _).far (p := ⟨_, 2, none⟩) hne' _).far (p := ⟨_, 3, none⟩) hne' _).far (p := ⟨_, 4, none⟩) hne' _).far (p := ⟨_, 5, none⟩) hne' _).row, ((((((((((((b6.far (p := ⟨_, 0, none⟩) hne2 _).far (p := ⟨_, 1, none⟩) hne2 _).far (p := ⟨_, 2, none⟩) hne2 _).far (p := ⟨_, 3, none⟩) hne2 _).far (p := ⟨_, 4, none⟩) hne2 _).far (p := ⟨_, 5, none⟩) hne2 _).set_ 0 _).set_ 1 _).set_ 2 _).set_ 3 _).set_ 4 _).set_ 5 _).row⟩
  case rest =>
    obtain ⟨g5, g6, rfl, rfl, hb2, r5, r6⟩ := hcut
    have q5 : ∀ k v, (keysA x)[k]? = some v → wc.cell? ⟨g5, k, none⟩ = some (.int .i64 v) := fun k v hv => (r5 k).trans (ints_get hv)
    have q6 : ∀ k v, (keysA y)[k]? = some v → wc.cell? ⟨g6, k, none⟩ = some (.int .i64 v) := fun k v hv => (r6 k).trans (ints_get hv)
    have Q5 := Lib.hid q5
    have Q6 := Lib.hid q6
    have hbw : Below w.heap.size w wc := hb1.trans (hb2.mono (by omega))
    clear q5 q6 r5 r6 r2 r3
    go_wp2_with fail
    go_loopw [4, 7] (fun s4 i wr => ∃ (k m : Nat), k ≤ 6 ∧ i = .int .i64 k ∧ s4 = .bool false ∧ wr = wc.drewN m ∧ Hid (lessA x y = lessL ((keysA x).drop k) ((keysA y).drop k))) (fun _ i _ => 6 - (intOf i).toNat)
    case atStart => exact ⟨0, 0, by omega, rfl, rfl, rfl, Lib.hid rfl⟩
    case round =>
      obtain ⟨k, m, hk, rfl, rfl, rfl, hst⟩ := hrel
      by_cases hlt : k < 6
      · obtain ⟨vx, hx⟩ := get_of_lt (l := keysA x) (k := k) (by simpa [keysA] using hlt)
        obtain ⟨vy, hy⟩ := get_of_lt (l := keysA y) (k := k) (by simpa [keysA] using hlt)
        have cx := Q5.out k vx hx
        have cy := Q6.out k vy hy
        have hst' := hst.out
        rw [drop_of_get hx, drop_of_get hy] at hst'
        simp only [lessL] at hst'
        have hki : (k : Int) < 6 := by omega
        by_cases he : vx = vy
        · rw [if_pos he] at hst'
          have hf := Lib.hid hst'
          clear hst' hx hy
          subst he
          go_wp2_with fail
          go_quiet (fail)
          go_wp2_with fail
          go_roundw
          case rel => exact ⟨k + 1, m + nq, by omega, by go_num, rfl, by simp, hf⟩
          case measure => simp [intOf]; omega
        · rw [if_neg he] at hst'
          have hf := Lib.hid hst'
          have hne : (vx == vy) = false := by simpa using he
          have hne2 : (vx != vy) = true := by simpa using he
          clear hst' hx hy
          go_wp2_with fail
          go_quiet (fail)
          go_wp2_with fail
          go_quiet (fail)
          go_wp2_with fail
          go_ret
          exact ⟨ret_bool (by rw [hf.out]), below_drewN (below_drewN (below_drewN hbw _) _) _⟩
      · have hk6 : k = 6 := by omega
        subst hk6
        go_wp2_with fail
        go_ret
        exact ⟨ret_bool (by rw [hst.out]; simp [keysA, lessL]), below_drewN hbw _⟩

end Go.Proofs.Ytllakkepphpfmaa
