/- Walks: Received, of the package and of the reference; Clone of []int. -/
import Derived.Test.YtddekdlbkedaiaaDoorPow8
import Derived.Maps.AppendAt
namespace Go.Proofs.YtddekdlbkedaiaaDoor
open Go.RowKit

theorem sumR_spec (l : List Int) : ((sumR l).2 = 0 ∧ 0 ≤ (sumR l).1 ∧ (sumR l).1 ≤ 4398046511104) ∨ (((sumR l).2 == 0) = false ∧ ((sumR l).2 != 0) = true) := by
  unfold sumR
  by_cases h : 64 < l.length
  · rw [if_pos h]; right; exact ⟨rfl, rfl⟩
  · rw [if_neg h]
    by_cases ha : l.all isP = true
    · rw [if_pos ha]; left
      have h1 := sum_bound l ha
      dsimp only
      omega
    · rw [if_neg ha]; right; exact ⟨rfl, rfl⟩
theorem Decide_walk (s t n i : Int) (w : World) (hs : 0 ≤ s ∧ s ≤ 68719476736) (ht : 0 ≤ t ∧ t ≤ 100000) (hn : 0 ≤ n ∧ n ≤ 68719476736) (hi : 0 ≤ i ∧ i ≤ 4398046511104) :
    Calls Tryd.prog 36 #[.int .i64 s, .int .i64 t, .int .i64 n, .int .i64 i] w fun e w' => e = .returned (.bool (decide (t * (n + i) ≤ 1000 * s))) ∧ w = w' := by
  obtain ⟨m0, m1⟩ := mul_bound (a := t) (b := n + i) (A := 100000) (B := 4466765987840) ht.1 ht.2 (by omega) (by omega)
  obtain ⟨s0, s1⟩ := hs
  obtain ⟨n0, n1⟩ := hn
  obtain ⟨i0, i1⟩ := hi
  clear ht
  go_enter Tryd.func36, Tryd.ntmps36
  go_wp2_with fail
  go_ret
  exact ⟨rfl, rfl⟩

set_option maxHeartbeats 1000000 in
theorem Received_walk (s t n : Int) (l : List Int) (A : Option Addr) (c : Nat) (w : World) (hA : LiesI w w.heap.size A l) (hm : l.length ≤ maxLen) :
    Calls Tryd.prog 17 #[.int .i64 s, .int .i64 t, .int .i64 n, .slice A l.length c] w fun e w' => e = .returned (.tuple #[.bool (rcvR s t n l).1, .int .i64 (rcvR s t n l).2]) ∧ w = w' := by
  have HS := Lib.hid (Sum_walk l A c w hA hm)
  have hsp := sumR_spec l
  have HR0 : Hid (rcvR s t n l = if isP s = true ∧ isC t n = true then (if (sumR l).2 = 0 then (decide (t * (n + (sumR l).1) ≤ 1000 * s), 0) else (false, (sumR l).2)) else (false, 2)) := Lib.hid rfl
  generalize rcvR s t n l = R at *
  generalize sumR l = U at *
  generalize l.length = N at *
  clear hA hm
  obtain ⟨U1, U2⟩ := U
  dsimp only at *
  rcases hb : isP s with _ | _
  · have HR : Hid (R = (false, 2)) := Lib.hid (by rw [HR0.out, if_neg (by simp [hb])])
    clear HR0 hsp
    go_enter Tryd.func17, Tryd.ntmps17
    go_wp2_with (first | (go_at_call 29; (with_reducible refine (pow_is _ _ hb _).mono ?_); rintro e w' ⟨rfl, rfl⟩) | (go_at_call 33; (with_reducible refine (cnd_is _ _ _ hc _).mono ?_); rintro e w' ⟨rfl, rfl⟩) | (go_at_call 18; (with_reducible refine (HS.out).mono ?_); rintro e w' ⟨rfl, rfl⟩))
    go_ret2
    exact ⟨by rw [HR.out]; rfl, rfl⟩
  rcases hc : isC t n with _ | _
  · have HR : Hid (R = (false, 2)) := Lib.hid (by rw [HR0.out, if_neg (by simp [hc])])
    clear HR0 hsp
    go_enter Tryd.func17, Tryd.ntmps17
    go_wp2_with (first | (go_at_call 29; (with_reducible refine (pow_is _ _ hb _).mono ?_); rintro e w' ⟨rfl, rfl⟩) | (go_at_call 33; (with_reducible refine (cnd_is _ _ _ hc _).mono ?_); rintro e w' ⟨rfl, rfl⟩) | (go_at_call 18; (with_reducible refine (HS.out).mono ?_); rintro e w' ⟨rfl, rfl⟩))
    go_ret2
    exact ⟨by rw [HR.out]; rfl, rfl⟩
  obtain ⟨s0, s1⟩ := isP_t hb
  obtain ⟨t0, t1, n0, n1⟩ := isC_t hc
  rcases hsp with ⟨rfl, i0, i1⟩ | ⟨e1, e2⟩
  · have HR : Hid (R = (decide (t * (n + U1) ≤ 1000 * s), 0)) := Lib.hid (by rw [HR0.out, if_pos ⟨hb, hc⟩, if_pos rfl])
    clear HR0
    obtain ⟨m0, m1⟩ := mul_bound (a := t) (b := n + U1) (A := 100000) (B := 4466765987840) (by omega) t1 (by omega) (by omega)
    go_enter Tryd.func17, Tryd.ntmps17
    go_wp2_with (first | (go_at_call 29; (with_reducible refine (pow_is _ _ hb _).mono ?_); rintro e w' ⟨rfl, rfl⟩) | (go_at_call 33; (with_reducible refine (cnd_is _ _ _ hc _).mono ?_); rintro e w' ⟨rfl, rfl⟩) | (go_at_call 18; (with_reducible refine (HS.out).mono ?_); rintro e w' ⟨rfl, rfl⟩))
    go_ret2
    exact ⟨by rw [HR.out]; rfl, rfl⟩
  · have HR : Hid (R = (false, U2)) := Lib.hid (by rw [HR0.out, if_pos ⟨hb, hc⟩, if_neg (by simpa using e1)])
    clear HR0
    go_enter Tryd.func17, Tryd.ntmps17
    go_wp2_with (first | (go_at_call 29; (with_reducible refine (pow_is _ _ hb _).mono ?_); rintro e w' ⟨rfl, rfl⟩) | (go_at_call 33; (with_reducible refine (cnd_is _ _ _ hc _).mono ?_); rintro e w' ⟨rfl, rfl⟩) | (go_at_call 18; (with_reducible refine (HS.out).mono ?_); rintro e w' ⟨rfl, rfl⟩))
    go_ret2
    exact ⟨by rw [HR.out]; rfl, rfl⟩

set_option maxHeartbeats 1000000 in
theorem rReceived_walk (s t n : Int) (l : List Int) (A : Option Addr) (c : Nat) (w : World) (hA : LiesI w w.heap.size A l) (hm : l.length ≤ maxLen) :
    Calls Tryd.prog 21 #[.int .i64 s, .int .i64 t, .int .i64 n, .slice A l.length c] w fun e w' => e = .returned (.tuple #[.bool (rcvR s t n l).1, .int .i64 (rcvR s t n l).2]) ∧ w = w' := by
  have HS := Lib.hid (rSum_walk l A c w hA hm)
  have hsp := sumR_spec l
  have HR0 : Hid (rcvR s t n l = if isP s = true ∧ isC t n = true then (if (sumR l).2 = 0 then (decide (t * (n + (sumR l).1) ≤ 1000 * s), 0) else (false, (sumR l).2)) else (false, 2)) := Lib.hid rfl
  generalize rcvR s t n l = R at *
  generalize sumR l = U at *
  generalize l.length = N at *
  clear hA hm
  obtain ⟨U1, U2⟩ := U
  dsimp only at *
  rcases hb : isP s with _ | _
  · have HR : Hid (R = (false, 2)) := Lib.hid (by rw [HR0.out, if_neg (by simp [hb])])
    clear HR0 hsp
    go_enter Tryd.func21, Tryd.ntmps21
    go_wp2_with (first | (go_at_call 32; (with_reducible refine (rIs_is _ _ hb _).mono ?_); rintro e w' ⟨rfl, rfl⟩) | (go_at_call 35; (with_reducible refine (rRight_is _ _ _ hc _).mono ?_); rintro e w' ⟨rfl, rfl⟩) | (go_at_call 20; (with_reducible refine (HS.out).mono ?_); rintro e w' ⟨rfl, rfl⟩) | (go_at_call 36; (with_reducible refine (Decide_walk _ _ _ _ _ ⟨s0, s1⟩ ⟨by omega, t1⟩ ⟨by omega, n1⟩ ⟨i0, i1⟩).mono ?_); rintro e w' ⟨rfl, rfl⟩))
    go_ret2
    exact ⟨by rw [HR.out]; rfl, rfl⟩
  rcases hc : isC t n with _ | _
  · have HR : Hid (R = (false, 2)) := Lib.hid (by rw [HR0.out, if_neg (by simp [hc])])
    clear HR0 hsp
    go_enter Tryd.func21, Tryd.ntmps21
    go_wp2_with (first | (go_at_call 32; (with_reducible refine (rIs_is _ _ hb _).mono ?_); rintro e w' ⟨rfl, rfl⟩) | (go_at_call 35; (with_reducible refine (rRight_is _ _ _ hc _).mono ?_); rintro e w' ⟨rfl, rfl⟩) | (go_at_call 20; (with_reducible refine (HS.out).mono ?_); rintro e w' ⟨rfl, rfl⟩) | (go_at_call 36; (with_reducible refine (Decide_walk _ _ _ _ _ ⟨s0, s1⟩ ⟨by omega, t1⟩ ⟨by omega, n1⟩ ⟨i0, i1⟩).mono ?_); rintro e w' ⟨rfl, rfl⟩))
    go_ret2
    exact ⟨by rw [HR.out]; rfl, rfl⟩
  obtain ⟨s0, s1⟩ := isP_t hb
  obtain ⟨t0, t1, n0, n1⟩ := isC_t hc
  rcases hsp with ⟨rfl, i0, i1⟩ | ⟨e1, e2⟩
  · have HR : Hid (R = (decide (t * (n + U1) ≤ 1000 * s), 0)) := Lib.hid (by rw [HR0.out, if_pos ⟨hb, hc⟩, if_pos rfl])
    clear HR0
    obtain ⟨m0, m1⟩ := mul_bound (a := t) (b := n + U1) (A := 100000) (B := 4466765987840) (by omega) t1 (by omega) (by omega)
    go_enter Tryd.func21, Tryd.ntmps21
    go_wp2_with (first | (go_at_call 32; (with_reducible refine (rIs_is _ _ hb _).mono ?_); rintro e w' ⟨rfl, rfl⟩) | (go_at_call 35; (with_reducible refine (rRight_is _ _ _ hc _).mono ?_); rintro e w' ⟨rfl, rfl⟩) | (go_at_call 20; (with_reducible refine (HS.out).mono ?_); rintro e w' ⟨rfl, rfl⟩) | (go_at_call 36; (with_reducible refine (Decide_walk _ _ _ _ _ ⟨s0, s1⟩ ⟨by omega, t1⟩ ⟨by omega, n1⟩ ⟨i0, i1⟩).mono ?_); rintro e w' ⟨rfl, rfl⟩))
    go_ret2
    exact ⟨by rw [HR.out]; rfl, rfl⟩
  · have HR : Hid (R = (false, U2)) := Lib.hid (by rw [HR0.out, if_pos ⟨hb, hc⟩, if_neg (by simpa using e1)])
    clear HR0
    go_enter Tryd.func21, Tryd.ntmps21
    go_wp2_with (first | (go_at_call 32; (with_reducible refine (rIs_is _ _ hb _).mono ?_); rintro e w' ⟨rfl, rfl⟩) | (go_at_call 35; (with_reducible refine (rRight_is _ _ _ hc _).mono ?_); rintro e w' ⟨rfl, rfl⟩) | (go_at_call 20; (with_reducible refine (HS.out).mono ?_); rintro e w' ⟨rfl, rfl⟩) | (go_at_call 36; (with_reducible refine (Decide_walk _ _ _ _ _ ⟨s0, s1⟩ ⟨by omega, t1⟩ ⟨by omega, n1⟩ ⟨i0, i1⟩).mono ?_); rintro e w' ⟨rfl, rfl⟩))
    go_ret2
    exact ⟨by rw [HR.out]; rfl, rfl⟩

theorem Tryd.infoInt : (Tryd.prog.info? 3).map (fun i => (i.zero, i.size, i.bytes)) = some (some (.int .i64 0), 1, 8) := by kernel_rfl
set_option maxRecDepth 100000 in
set_option maxHeartbeats 4000000 in
theorem cloneI_any (l : List Int) (A : Option Addr) (c : Nat) (w : World) (hA : LiesI w w.heap.size A l) (hl : l.length ≤ 1000000) (hnil : A = none → l = []) :
    Calls Tryd.prog 19 #[.slice A l.length c] w fun e w' => Below w.heap.size w w' ∧ ∃ v, e = .returned v ∧ w'.ownsRow w.heap.size 3 1 v l.length (flatI l) := by
  obtain ⟨i0, hi, hz0, hz1, hz2⟩ := info_parts Tryd.infoInt
  have hsn := fun (W : World) (a : Option Addr) (n k : Nat) => Lib.run_eql_slice_nil (P := Tryd.prog) W 32 3 a n k 0 0 Tryd.underlying32
  cases A with
  | none =>
    have h0 := hnil rfl
    subst h0
    go_enter Tryd.func19, Tryd.ntmps19
    go_wp2_with fail
    go_ret
    exact ⟨Below.refl _ _, _, rfl, World.ownsRow_nil _ _ _ _⟩
  | some ad =>
    obtain ⟨n, hn⟩ : ∃ n, n = l.length := ⟨_, rfl⟩
    rw [← hn] at hl ⊢
    have hfl : Hid ((flatI l).length = n * 1) := Lib.hid (by rw [hn]; exact flat_len (f := irow) irow_len l)
    have hnews : Hid (∀ (o : Obj) j u, (flatI l)[j]? = some u → (w.alloc o).cell? (ad.add j) = some u) := Lib.hid fun o => Lies.news (f := irow) irow_len (by decide) (w := w.alloc o) (hA.below ((Below.refl _ _).alloc (Nat.le_refl _) _))
    have HN := Lib.hid hn
    clear hn hA hnil
    have hown : Hid ((w.alloc (.cells #[] 3)).ownsRow w.heap.size 3 1 (.slice (some ⟨w.heap.size, 0, none⟩) 0 0) 0 []) := Lib.hid ⟨rfl, .inr ⟨w.heap.size, 0, #[], rfl, Nat.le_refl _, heap_alloc_new w _, Nat.le_refl _, by unfold maxLen; omega, rfl, rfl⟩⟩
    go_enter Tryd.func19, Tryd.ntmps19
    go_wp2_with (at_builtin; refine wpList_append_own_at _ rfl (.tmp 5) (.tmp 6) 32 rfl w.heap.size 3 i0 (.int .i64 0) 1 8 Tryd.underlying32 hi hz0 hz1 hz2 rfl (by decide) (.slice (some ⟨w.heap.size, 0, none⟩) 0 0) 0 [] rfl hown.out ad n c (flatI l) rfl hfl.out (hnews.out _) (flatI_one l) ?e2 ?e3 ?e4 ?_)
    case e2 => unfold maxLen; omega
    case e3 => omega
    case e4 => simp
    intro v3 w3 ho3 hg3 hnil3 hat3
    have hb3 : Below w.heap.size w w3 := ((Below.refl _ _).alloc (Nat.le_refl _) _).grown hg3 (by simp) (by intro g hg; simp [Value.ownBlock] at hg; omega)
    have ho : w3.ownsRow w.heap.size 3 1 v3 n (flatI l) := by simpa using ho3
    clear hnil3 hat3 hg3 ho3
    go_wp2_with fail
    go_ret
    exact ⟨hb3, v3, rfl, ho⟩

end Go.Proofs.YtddekdlbkedaiaaDoor
