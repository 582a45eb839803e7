/- The walk of PowerCapture. -/
import Derived.Test.YtddekdlbkedaiaaDoorPow9
namespace Go.Proofs.YtddekdlbkedaiaaDoor
open Go.RowKit

theorem Received_one (s t n b : Int) (g : Nat) (w : World) (hc : w.cell? ⟨g, 0, none⟩ = some (.int .i64 b)) (hg : g < w.heap.size) (X : Bool) (Y : Int) (hR : rcvR s t n [b] = (X, Y)) :
    Calls Tryd.prog 17 #[.int .i64 s, .int .i64 t, .int .i64 n, .slice (some ⟨g, 0, none⟩) 1 1] w fun e w' => e = .returned (.tuple #[.bool X, .int .i64 Y]) ∧ w = w' := by
  have h := Received_walk s t n [b] (some ⟨g, 0, none⟩) 1 w (fun _ => ⟨g, 0, rfl, hg, fun k row hr j u hu => by
    cases k with
    | zero =>
      simp [irow] at hr
      subst hr
      cases j with
      | zero => simp at hu; subst hu; simpa using hc
      | succ j => simp at hu
    | succ k => simp at hr⟩) (by unfold maxLen; simp)
  rw [hR] at h
  exact h
theorem rcv_true {s t n : Int} {l : List Int} (h : (rcvR s t n l).1 = true) : (rcvR s t n l).2 = 0 ∧ isP s = true ∧ isC t n = true ∧ l.length ≤ 64 ∧ l.all isP = true ∧ t * (n + l.sum) ≤ 1000 * s := by
  unfold rcvR at *
  by_cases h1 : isP s = true ∧ isC t n = true
  · rw [if_pos h1] at h ⊢
    by_cases h2 : (sumR l).2 = 0
    · rw [if_pos h2] at h ⊢
      have h3 : l.length ≤ 64 ∧ l.all isP = true ∧ (sumR l).1 = l.sum := by
        unfold sumR at h2 ⊢
        by_cases a : 64 < l.length
        · rw [if_pos a] at h2; cases h2
        · rw [if_neg a] at h2 ⊢
          by_cases b : l.all isP = true
          · rw [if_pos b]; exact ⟨by omega, b, rfl⟩
          · rw [if_neg b] at h2; cases h2
      have h4 := of_decide_eq_true h
      rw [h3.2.2] at h4
      exact ⟨rfl, h1.1, h1.2, h3.1, h3.2.1, h4⟩
    · rw [if_neg h2] at h; cases h
  · rw [if_neg h1] at h; cases h
theorem capture {a b t n : Int} (h1 : (rcvR a t n [b]).1 = true) (h2 : (rcvR b t n [a]).1 = true) : False := by
  obtain ⟨_, p1, c1, _, _, e1⟩ := rcv_true h1
  obtain ⟨_, p2, _, _, _, e2⟩ := rcv_true h2
  have a1 := isP_t p1
  have a2 := isP_t p2
  have a3 := isC_t c1
  simp only [List.sum_cons, List.sum_nil, Int.add_zero] at e1 e2
  have m1 : 1000 * (n + b) ≤ t * (n + b) := Int.mul_le_mul_of_nonneg_right a3.1 (by omega)
  have m2 : 1000 * (n + a) ≤ t * (n + a) := Int.mul_le_mul_of_nonneg_right a3.1 (by omega)
  omega

set_option maxRecDepth 100000 in
set_option maxHeartbeats 4000000 in
theorem powerCapture_walk (a b t n : Int) (w : World) : Calls Tryd.prog 6 #[.int .i64 a, .int .i64 b, .agg #[.int .i64 t, .int .i64 n]] w fun e w' => e = .returned (.bool true) ∧ Below w.heap.size w w' := by
  have H0 := Lib.hid (@capture a b t n)
  have H1 := Lib.hid (fun h => (@rcv_true a t n [b] h).1)
  have H2 := Lib.hid (fun h => (@rcv_true b t n [a] h).1)
  have R1 := Lib.hid (fun (X : Bool) (Y : Int) h g w hc hg => Received_one a t n b g w hc hg X Y h)
  have R2 := Lib.hid (fun (X : Bool) (Y : Int) h g w hc hg => Received_one b t n a g w hc hg X Y h)
  generalize rcvR a t n [b] = X at *
  generalize rcvR b t n [a] = Y at *
  obtain ⟨x, xe⟩ := X
  obtain ⟨y, ye⟩ := Y
  have S1 := Lib.hid (fun g w hc hg => R1.out x xe rfl g w hc hg)
  have S2 := Lib.hid (fun g w hc hg => R2.out y ye rfl g w hc hg)
  clear R1 R2
  have K : (xe = 0 ∨ ((xe == 0) = false)) ∧ (ye = 0 ∨ ((ye == 0) = false)) := ⟨by by_cases h : xe = 0 <;> simp [h], by by_cases h : ye = 0 <;> simp [h]⟩
  have J : (x = true ∧ xe = 0 ∧ y = false) ∨ (x = false ∧ y = true ∧ ye = 0) ∨ (x = false ∧ y = false) := by
    cases x
    · cases y
      · simp
      · simp; exact H2.out rfl
    · cases y
      · simp; exact H1.out rfl
      · exact absurd (H0.out rfl rfl) (by simp)
  clear H0 H1 H2
  have fin : ∀ (w1 w3 : World) (o1 o2 o3 : Obj), Below (w.alloc o1).heap.size (w.alloc o1) w1 → w3 = (w1.alloc o2).alloc o3 → Below w.heap.size w w3 := fun w1 w3 o1 o2 o3 h h3 => by
    subst h3
    have s := h.size
    simp at s
    exact ((((Below.refl _ _).alloc (Nat.le_refl _) _).trans (h.mono (by simp))).alloc (by omega) _).alloc (by simp; omega) _
  rcases K with ⟨hx | hx, hy | hy⟩ <;> rcases J with ⟨rfl, rfl, rfl⟩ | ⟨rfl, rfl, rfl⟩ | ⟨rfl, rfl⟩
  all_goals (try subst hx); (try subst hy)
  all_goals first
    | (simp at hx; done)
    | (simp at hy; done)
    | (go_enter Tryd.func6, Tryd.ntmps6
       go_wp2_with fail
       refine (awake_any _).mono ?_
       rintro e w1 ⟨rfl, hb1⟩
       have hcell : w1.cell? ⟨w.heap.size, 0, none⟩ = some (.int .i64 t) ∧ w1.cell? ⟨w.heap.size, 1, none⟩ = some (.int .i64 n) := ⟨(hb1.cell (p := ⟨w.heap.size, 0, none⟩) (by simp)).trans (by simp), (hb1.cell (p := ⟨w.heap.size, 1, none⟩) (by simp)).trans (by simp)⟩
       have hsz : w.heap.size < w1.heap.size := by have := hb1.size; simp at this; omega
       have HB1 := Lib.hid hb1
       obtain ⟨c0, c1⟩ := hcell
       clear hb1
       go_wp2_with fail
       refine (S1.out _ _ (by simp) (by simp)).mono ?_
       rintro e w2 ⟨rfl, rfl⟩
       go_wp2_with fail
       refine (S2.out _ _ (by simp) (by simp)).mono ?_
       rintro e w2 ⟨rfl, rfl⟩
       go_wp2_with fail
       go_ret
       exact ⟨rfl, fin _ _ _ _ _ HB1.out rfl⟩)
end Go.Proofs.YtddekdlbkedaiaaDoor
