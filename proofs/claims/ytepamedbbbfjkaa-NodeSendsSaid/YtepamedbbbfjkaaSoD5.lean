/- Walks: package slices' stable sort of duties exchanges rows only: the whole. -/
import Derived.Test.YtepamedbbbfjkaaSoD4
namespace Go.Proofs.Ytepamedbbbfjkaa
open Go.RowKit
open Nd

set_option maxRecDepth 100000 in
set_option maxHeartbeats 8000000 in
/-- The stable sort exchanges rows only. -/
theorem stable_any (z : Du → Du → Int) (fn : FuncId) (cb : Array Value) (l : List Du) (g c : Nat) (w : World) (eg : ∀ args w, (callFunc fn args).run Try.prog w = .ok (.enter fn args) w)
    (hr : RowsAt w g 63 9 (l.map Du.row)) (hl : l.length ≤ 1000) (hc : CmpD z fn cb g w) :
    Calls Try.prog 67 #[.slice (some ⟨g, 0, none⟩) l.length c, .int .i64 l.length, .func (.func fn) #[] cb] w fun e w' => e = .returned (.tuple #[]) ∧ Perms Du.row 63 9 w g l w' := by
  obtain ⟨n, hn⟩ : ∃ n, n = l.length := ⟨_, rfl⟩
  rw [← hn] at hl ⊢
  have HN := Lib.hid hn
  have HC := Lib.hid hc
  have HS := Lib.hid (Perms.start hr)
  clear hn hc hr
  have HIns : ∀ a b : Nat, a ≤ b → b ≤ n → Hid _ := fun a b h1 h2 => Lib.hid (fun W (HPW : Perms Du.row 63 9 w g l W) => (by
  obtain ⟨hgr, l1, hp1, hr1⟩ := HPW
  have hll : l1.length = n := by rw [HN.out]; exact hp1.length_eq
  have con := insort_any z fn cb l1 g c a b W eg hr1 h1 (by omega) (by omega) (HC.out.later hgr)
  rw [hll] at con
  exact con.mono fun _ _ h => ⟨h.1, Perms.trans hgr hp1 h.2⟩ : Calls Try.prog 75 #[.slice (some ⟨g, 0, none⟩) n c, .int .i64 ((a : Nat) : Int), .int .i64 ((b : Nat) : Int), .func (.func fn) #[] cb] W fun e w' => e = .returned (.tuple #[]) ∧ Perms Du.row 63 9 w g l w'))
  have HSym : ∀ a m b : Nat, a < m → m < b → b ≤ n → Hid _ := fun a m b h1 h2 h3 => Lib.hid (fun W (HPW : Perms Du.row 63 9 w g l W) => (by
  obtain ⟨hgr, l1, hp1, hr1⟩ := HPW
  have hll : l1.length = n := by rw [HN.out]; exact hp1.length_eq
  have con := symm_any z fn cb g c eg (b - a) l1 a m b W (Nat.le_refl _) hr1 h1 h2 (by omega) (by omega) (HC.out.later hgr)
  rw [hll] at con
  exact con.mono fun _ _ h => ⟨h.1, Perms.trans hgr hp1 h.2⟩ : Calls Try.prog 76 #[.slice (some ⟨g, 0, none⟩) n c, .int .i64 ((a : Nat) : Int), .int .i64 ((m : Nat) : Int), .int .i64 ((b : Nat) : Int), .func (.func fn) #[] cb] W fun e w' => e = .returned (.tuple #[]) ∧ Perms Du.row 63 9 w g l w'))
  go_enter Try.func67, Try.ntmps67
  go_wp2_with fail
  go_loopw [7, 8] (fun s7 s8 wr => ∃ (a b : Nat), a ≤ n ∧ b = a + 20 ∧ s7 = .int .i64 a ∧ s8 = .int .i64 b ∧ Hid (Perms Du.row 63 9 w g l wr)) (fun s7 _ _ => n - (intOf s7).toNat)
  case atStart => exact ⟨0, 20, by omega, by omega, rfl, rfl, HS⟩
  case round =>
    clear HS
    obtain ⟨a, b, ha, hab, rfl, rfl, HP⟩ := hrel
    have hab1 : a + 20 ≤ b := by omega
    have hab2 : b ≤ a + 20 := by omega
    clear hab
    by_cases hbn : b ≤ n
    · have HI := HIns a b (by omega) hbn
      go_wp2_with (go_at_call 75; (with_reducible refine (HI.out _ HP.out).mono ?_); rintro _ w2 ⟨rfl, hq⟩; have HP2 := Lib.hid hq; clear hq)
      go_roundw
      case rel => exact ⟨b, b + 20, by omega, by omega, rfl, by go_num, HP2⟩
      case measure => simp [intOf]; omega
    · have HI := HIns a n ha (Nat.le_refl _)
      go_wp2_with (go_at_call 75; (with_reducible refine (HI.out _ HP.out).mono ?_); rintro _ w2 ⟨rfl, hq⟩; have HP2 := Lib.hid hq; clear hq)
      clear HP HI HIns
      go_loopw [6] (fun s6 wr => ∃ (k : Nat), 0 < k ∧ k ≤ 2000 ∧ s6 = .int .i64 k ∧ Hid (Perms Du.row 63 9 w g l wr)) (fun s6 _ => 2000 - (intOf s6).toNat)
      case atStart => exact ⟨20, by omega, by omega, rfl, HP2⟩
      case round =>
        clear HP2
        obtain ⟨k, hk0, hk1, rfl, HP⟩ := hrel
        by_cases hkn : k < n
        · go_wp2_with fail
          obtain ⟨wo, hwo⟩ : ∃ wo : World, wo = wr := ⟨_, rfl⟩
          subst hwo
          go_loopw [7, 8] (fun s7 s8 wr => ∃ (a b : Nat), a ≤ n ∧ b = a + 2 * k ∧ s7 = .int .i64 a ∧ s8 = .int .i64 b ∧ Hid (Perms Du.row 63 9 w g l wr)) (fun s7 _ _ => n - (intOf s7).toNat)
          case atStart => exact ⟨0, 2 * k, by omega, by omega, rfl, by go_num, HP⟩
          case round =>
            clear HP
            obtain ⟨a, b, ha, hab, rfl, rfl, HP⟩ := hrel
            have hab1 : a + 2 * k ≤ b := by omega
            have hab2 : b ≤ a + 2 * k := by omega
            clear hab
            by_cases hbn : b ≤ n
            · have HI := HSym a (a + k) b (by omega) (by omega) hbn
              rw [Int.natCast_add] at HI
              go_wp2_with (go_at_call 76; (with_reducible refine (HI.out _ HP.out).mono ?_); rintro _ w2 ⟨rfl, hq⟩; have HP2 := Lib.hid hq; clear hq)
              go_roundw
              case rel => exact ⟨b, b + 2 * k, by omega, by omega, rfl, by go_num, HP2⟩
              case measure => simp [intOf]; omega
            · by_cases hm : a + k < n
              · have HI := HSym a (a + k) n (by omega) hm (Nat.le_refl _)
                rw [Int.natCast_add] at HI
                go_wp2_with (go_at_call 76; (with_reducible refine (HI.out _ HP.out).mono ?_); rintro _ w2 ⟨rfl, hq⟩; have HP2 := Lib.hid hq; clear hq)
                go_roundw
                case rel => exact ⟨k * 2, by omega, by omega, by go_num, HP2⟩
                case measure => simp [intOf]; omega
              · go_wp2_with fail
                go_roundw
                case rel => exact ⟨k * 2, by omega, by omega, by go_num, HP⟩
                case measure => simp [intOf]; omega
        · go_wp2_with fail
          go_end0
          exact ⟨rfl, HP.out⟩
theorem sortS_any (z : Du → Du → Int) (fn : FuncId) (cb : Array Value) (l : List Du) (g c : Nat) (w : World) (eg : ∀ args w, (callFunc fn args).run Try.prog w = .ok (.enter fn args) w)
    (hr : RowsAt w g 63 9 (l.map Du.row)) (hl : l.length ≤ 1000) (hc : CmpD z fn cb g w) :
    Calls Try.prog 50 #[.slice (some ⟨g, 0, none⟩) l.length c, .func (.func fn) #[] cb] w fun e w' => e = .returned (.tuple #[]) ∧ Perms Du.row 63 9 w g l w' := by
  have Con := Lib.hid (stable_any z fn cb l g c w eg hr hl hc)
  generalize l.length = n at *
  go_enter Try.func50, Try.ntmps50
  go_wp2_with (go_at_call 67; (with_reducible refine Con.out.mono ?_); rintro e w' ⟨rfl, hq⟩)
  go_end0
  exact ⟨rfl, hq⟩
/-- What the duties of a slot are ordered by. -/
def turnD (d : Du) : Int := if d.se = true then -1 else if d.ex = true then 1 else 0
theorem later_any (d : Du) (w : World) : Calls Try.prog 49 #[.agg #[.int .i64 d.cs, .int .i64 d.co, .int .i64 d.cf, .int .i64 d.ct, .int .i64 d.cl, .bool d.se, .bool d.ex, .int .i64 d.fi, .int .i64 d.un]] w fun e w' => e = .returned (.int .i64 (if d.ex = true then 1 else 0)) ∧ Below w.heap.size w w' := by
  have hb : Below w.heap.size w (w.alloc (.cells #[.int .i64 d.cs, .int .i64 d.co, .int .i64 d.cf, .int .i64 d.ct, .int .i64 d.cl, .bool d.se, .bool d.ex, .int .i64 d.fi, .int .i64 d.un] 63)) := (Below.refl _ _).alloc (Nat.le_refl _) _
  cases he : d.ex
  all_goals
    rw [he] at hb
    go_enter Try.func49, Try.ntmps49
    go_wp2_with fail
    go_ret
    exact ⟨rfl, hb⟩
theorem turn_any (d : Du) (w : World) : Calls Try.prog 48 #[.agg #[.int .i64 d.cs, .int .i64 d.co, .int .i64 d.cf, .int .i64 d.ct, .int .i64 d.cl, .bool d.se, .bool d.ex, .int .i64 d.fi, .int .i64 d.un]] w fun e w' => e = .returned (.int .i64 (turnD d)) ∧ Below w.heap.size w w' := by
  have hb : Below w.heap.size w (w.alloc (.cells #[.int .i64 d.cs, .int .i64 d.co, .int .i64 d.cf, .int .i64 d.ct, .int .i64 d.cl, .bool d.se, .bool d.ex, .int .i64 d.fi, .int .i64 d.un] 63)) := (Below.refl _ _).alloc (Nat.le_refl _) _
  have Con := Lib.hid (fun W => later_any d W)
  cases he : d.se
  · have ht : Hid (turnD d = if d.ex = true then 1 else 0) := Lib.hid (by unfold turnD; rw [he]; rfl)
    rw [he] at Con hb
    generalize (if d.ex = true then (1 : Int) else 0) = T at *
    go_enter Try.func48, Try.ntmps48
    go_wp2_with (go_at_call 49; (with_reducible refine (Con.out _).mono ?_); rintro e w' ⟨rfl, hq⟩)
    go_ret
    exact ⟨ret_int ht.out.symm, hb.trans (hq.mono hb.size)⟩
  · have ht : Hid (turnD d = -1) := Lib.hid (by unfold turnD; rw [he]; rfl)
    rw [he] at hb
    go_enter Try.func48, Try.ntmps48
    go_wp2_with fail
    go_ret
    exact ⟨ret_int ht.out.symm, hb⟩
end Go.Proofs.Ytepamedbbbfjkaa
