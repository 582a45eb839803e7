/- Walks over slices of powers: add, Sum, Received, of the package and of the reference; Clone of []int. -/
import Derived.Test.YtddekdlbkedaiaaDoorPow7
import Derived.Test.YtddekdlbkedaiaaDoorOwn
namespace Go.Proofs.YtddekdlbkedaiaaDoor
open Go.RowKit

theorem all_take {l : List Int} {k : Nat} {x : Int} {f : Int → Bool} (h : l[k]? = some x) : (l.take (k + 1)).all f = ((l.take k).all f && f x) := by
  have hk : k < l.length := (List.getElem?_eq_some_iff.1 h).1
  rw [List.take_succ_eq_append_getElem hk, List.all_append]
  have := (List.getElem?_eq_some_iff.1 h).2
  simp [this]
theorem sum_take {l : List Int} {k : Nat} {x : Int} (h : l[k]? = some x) : (l.take (k + 1)).sum = (l.take k).sum + x := by
  have hk : k < l.length := (List.getElem?_eq_some_iff.1 h).1
  rw [List.take_succ_eq_append_getElem hk, List.sum_append]
  have := (List.getElem?_eq_some_iff.1 h).2
  simp [this]
theorem all_get {l : List Int} {k : Nat} {x : Int} {f : Int → Bool} (ha : l.all f = true) (h : l[k]? = some x) : f x = true :=
  List.all_eq_true.1 ha x (List.mem_of_getElem? h)
theorem sum_bound : ∀ l : List Int, l.all isP = true → 0 ≤ l.sum ∧ l.sum ≤ 68719476736 * l.length
  | [], _ => by simp
  | x :: l, h => by
    simp only [List.all_cons, Bool.and_eq_true] at h
    have h1 := isP_t h.1
    have h2 := sum_bound l h.2
    simp only [List.sum_cons, List.length_cons]
    omega
theorem take_bound {l : List Int} (ha : l.all isP = true) (k : Nat) (hk : k ≤ 64) : 0 ≤ (l.take k).sum ∧ (l.take k).sum ≤ 4398046511104 := by
  have h : (l.take k).all isP = true := by
    rw [List.all_eq_true] at ha ⊢
    exact fun x hx => ha x (List.mem_of_mem_take hx)
  have h1 := sum_bound _ h
  have h2 : (l.take k).length ≤ k := List.length_take_le _ _
  omega
theorem not_all {l : List Int} {k : Nat} {x : Int} {f : Int → Bool} (h : l[k]? = some x) (hx : f x = false) : l.all f = false := by
  rw [Bool.eq_false_iff]
  intro ha
  rw [all_get ha h] at hx
  cases hx

theorem tk_bound {l : List Int} {k : Nat} (h : (l.take k).all isP = true) (hk : k ≤ 64) : 0 ≤ (l.take k).sum ∧ (l.take k).sum ≤ 4398046511104 := by
  have h1 := sum_bound _ h
  have h2 : (l.take k).length ≤ k := List.length_take_le _ _
  omega
set_option maxHeartbeats 1000000 in
theorem add_walk (l : List Int) (A : Option Addr) (c : Nat) (w : World) (hA : LiesI w w.heap.size A l) (hn : l.length ≤ 64) (ha : l.all isP = true) :
    Calls Tryd.prog 34 #[.slice A l.length c] w fun e w' => e = .returned (.int .i64 l.sum) ∧ w = w' := by
  obtain ⟨n, hnn⟩ : ∃ n, n = l.length := ⟨_, rfl⟩
  rw [← hnn] at hn ⊢
  have HN := Lib.hid hnn
  have HA := Lib.hid ha
  obtain ⟨T, hT⟩ : ∃ T, T = l.sum := ⟨_, rfl⟩
  rw [← hT]
  have HT := Lib.hid hT
  clear hnn ha hT
  go_enter Tryd.func34, Tryd.ntmps34
  go_wp2_with fail
  go_loop [3, 8] (fun s i => ∃ k : Nat, k ≤ n ∧ i = .int .i64 k ∧ s = .int .i64 (l.take k).sum) (fun _ i => n - (intOf i).toNat)
  case atStart => exact ⟨0, Nat.zero_le _, rfl, by simp⟩
  case round =>
    obtain ⟨k, hk, rfl, rfl⟩ := hrel
    obtain ⟨b1, b2⟩ := take_bound HA.out k (by omega)
    by_cases hlt : k < n
    · obtain ⟨x, hx⟩ := get_of_lt (l := l) (k := k) (by rw [← HN.out]; exact hlt)
      obtain ⟨b, off, rfl, hbB, hcs⟩ := hA.at_ hx
      have c0 := hcs k x hx
      have HS := Lib.hid (sum_take hx)
      obtain ⟨x1, x2⟩ := isP_t (all_get HA.out hx)
      clear hcs hx
      generalize (l.take k).sum = S at *
      go_wp2_with fail
      go_round
      case rel => exact ⟨k + 1, by omega, by go_num, by rw [HS.out]⟩
      case measure => simp [intOf]; omega
    · have HE : Hid ((l.take k).sum = T) := Lib.hid (by rw [HT.out, List.take_of_length_le (by rw [← HN.out]; omega)])
      go_wp2_with fail
      go_ret
      exact ⟨ret_int HE.out, rfl⟩

set_option maxHeartbeats 1000000 in
theorem Sum_walk (l : List Int) (A : Option Addr) (c : Nat) (w : World) (hA : LiesI w w.heap.size A l) (hm : l.length ≤ maxLen) :
    Calls Tryd.prog 18 #[.slice A l.length c] w fun e w' => e = .returned (.tuple #[.int .i64 (sumR l).1, .int .i64 (sumR l).2]) ∧ w = w' := by
  unfold maxLen at hm
  by_cases h64 : l.length ≤ 64
  case neg =>
    have HR : sumR l = (0, 8) := by unfold sumR; rw [if_pos (by omega)]
    rw [HR]; dsimp only; clear HR
    have h65 : 64 < l.length := by omega
    generalize l.length = n at *
    go_enter Tryd.func18, Tryd.ntmps18
    go_wp2_with fail
    go_ret2
    exact ⟨rfl, rfl⟩
  have HAdd := Lib.hid (fun ha => add_walk l A c w hA h64 ha)
  obtain ⟨T, hT⟩ : ∃ T, T = sumR l := ⟨_, rfl⟩
  rw [← hT]
  have HT : Hid (T = if l.all isP = true then (l.sum, 0) else (0, 2)) := Lib.hid (by rw [hT]; unfold sumR; rw [if_neg (by omega)])
  obtain ⟨n, hnn⟩ : ∃ n, n = l.length := ⟨_, rfl⟩
  rw [← hnn] at h64 hm HAdd ⊢
  have HN := Lib.hid hnn
  have h65 : decide (64 < n) = false := decide_eq_false (by omega)
  clear hnn hT
  go_enter Tryd.func18, Tryd.ntmps18
  go_wp2_with fail
  go_loop [11] (fun i => ∃ k : Nat, k ≤ n ∧ i = .int .i64 k ∧ Hid ((l.take k).all isP = true)) (fun i => n - (intOf i).toNat)
  case atStart => exact ⟨0, Nat.zero_le _, rfl, Lib.hid (by simp)⟩
  case round =>
    obtain ⟨k, hk, rfl, HI⟩ := hrel
    by_cases hlt : k < n
    · obtain ⟨x, hx⟩ := get_of_lt (l := l) (k := k) (by rw [← HN.out]; exact hlt)
      obtain ⟨b, off, rfl, hbB, hcs⟩ := hA.at_ hx
      have c0 := hcs k x hx
      rcases hp : isP x with _ | _
      · have HE : Hid (T = (0, 2)) := Lib.hid (by rw [HT.out, if_neg (by rw [not_all hx hp]; decide)])
        clear hcs hx
        go_wp2_with (go_at_call 29; (with_reducible refine (pow_is _ _ hp _).mono ?_); rintro e w' ⟨rfl, rfl⟩)
        go_ret2
        exact ⟨by rw [HE.out]; rfl, rfl⟩
      have HJ : Hid ((l.take (k + 1)).all isP = true) := Lib.hid (by rw [all_take hx, HI.out, hp]; rfl)
      obtain ⟨x1, x2⟩ := isP_t hp
      clear hcs hx
      go_wp2_with (go_at_call 29; (with_reducible refine (pow_is _ _ hp _).mono ?_); rintro e w' ⟨rfl, rfl⟩)
      go_round
      case rel => exact ⟨k + 1, by omega, by go_num, HJ⟩
      case measure => simp [intOf]; omega
    · have ha : l.all isP = true := by have := HI.out; rwa [List.take_of_length_le (by rw [← HN.out]; omega)] at this
      have hadd := HAdd.out ha
      have HE : Hid (T = (l.sum, 0)) := Lib.hid (by rw [HT.out, if_pos ha])
      clear ha
      go_wp2_with (go_at_call 34; (with_reducible refine hadd.mono ?_); rintro e w' ⟨rfl, rfl⟩)
      go_ret2
      exact ⟨by rw [HE.out]; rfl, rfl⟩

set_option maxHeartbeats 1000000 in
theorem rSum_walk (l : List Int) (A : Option Addr) (c : Nat) (w : World) (hA : LiesI w w.heap.size A l) (hm : l.length ≤ maxLen) :
    Calls Tryd.prog 20 #[.slice A l.length c] w fun e w' => e = .returned (.tuple #[.int .i64 (sumR l).1, .int .i64 (sumR l).2]) ∧ w = w' := by
  unfold maxLen at hm
  by_cases h64 : l.length ≤ 64
  case neg =>
    have HR : sumR l = (0, 8) := by unfold sumR; rw [if_pos (by omega)]
    rw [HR]; dsimp only; clear HR
    have h65 : 64 < l.length := by omega
    generalize l.length = n at *
    go_enter Tryd.func20, Tryd.ntmps20
    go_wp2_with fail
    go_ret2
    exact ⟨rfl, rfl⟩
  obtain ⟨T, hT⟩ : ∃ T, T = sumR l := ⟨_, rfl⟩
  rw [← hT]
  have HT : Hid (T = if l.all isP = true then (l.sum, 0) else (0, 2)) := Lib.hid (by rw [hT]; unfold sumR; rw [if_neg (by omega)])
  obtain ⟨n, hnn⟩ : ∃ n, n = l.length := ⟨_, rfl⟩
  rw [← hnn] at h64 hm ⊢
  have HN := Lib.hid hnn
  have h65 : decide (64 < n) = false := decide_eq_false (by omega)
  clear hnn hT
  go_enter Tryd.func20, Tryd.ntmps20
  go_wp2_with fail
  go_loop [4, 5] (fun s i => ∃ k : Nat, k ≤ n ∧ i = .int .i64 k ∧ s = .int .i64 (l.take k).sum ∧ Hid ((l.take k).all isP = true)) (fun _ i => n - (intOf i).toNat)
  case atStart => exact ⟨0, Nat.zero_le _, rfl, by simp, Lib.hid (by simp)⟩
  case round =>
    obtain ⟨k, hk, rfl, rfl, HI⟩ := hrel
    by_cases hlt : k < n
    · obtain ⟨x, hx⟩ := get_of_lt (l := l) (k := k) (by rw [← HN.out]; exact hlt)
      obtain ⟨b, off, rfl, hbB, hcs⟩ := hA.at_ hx
      have c0 := hcs k x hx
      obtain ⟨b1, b2⟩ := tk_bound HI.out (by omega)
      rcases hp : isP x with _ | _
      · have HE : Hid (T = (0, 2)) := Lib.hid (by rw [HT.out, if_neg (by rw [not_all hx hp]; decide)])
        clear hcs hx
        go_wp2_with (go_at_call 32; (with_reducible refine (rIs_is _ _ hp _).mono ?_); rintro e w' ⟨rfl, rfl⟩)
        go_ret2
        exact ⟨by rw [HE.out]; rfl, rfl⟩
      have HS := Lib.hid (sum_take hx)
      have HJ : Hid ((l.take (k + 1)).all isP = true) := Lib.hid (by rw [all_take hx, HI.out, hp]; rfl)
      obtain ⟨x1, x2⟩ := isP_t hp
      clear hcs hx
      generalize (l.take k).sum = S at *
      go_wp2_with (go_at_call 32; (with_reducible refine (rIs_is _ _ hp _).mono ?_); rintro e w' ⟨rfl, rfl⟩)
      go_round
      case rel => exact ⟨k + 1, by omega, by go_num, by rw [HS.out], HJ⟩
      case measure => simp [intOf]; omega
    · have ha : l.all isP = true := by have := HI.out; rwa [List.take_of_length_le (by rw [← HN.out]; omega)] at this
      have HE : Hid (T = ((l.take k).sum, 0)) := Lib.hid (by rw [HT.out, if_pos ha, List.take_of_length_le (by rw [← HN.out]; omega)])
      clear ha
      go_wp2_with fail
      go_ret2
      exact ⟨by rw [HE.out]; rfl, rfl⟩
end Go.Proofs.YtddekdlbkedaiaaDoor
