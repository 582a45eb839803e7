/- Walks: the duties of a slot, in general. -/
import Derived.Test.YtepamedbbbfjkaaSoD5
namespace Go.Proofs.Ytepamedbbbfjkaa
open Go.RowKit
open Nd
theorem oneD (d : Du) : ∀ u ∈ d.row, u.oneCell' = true := by
  intro u hu
  simp only [Du.row, List.mem_cons, List.not_mem_nil, or_false] at hu
  rcases hu with rfl | rfl | rfl | rfl | rfl | rfl | rfl | rfl | rfl <;> rfl
theorem take_get {α : Type} {l : List α} {k : Nat} {a : α} (h : l[k]? = some a) : l.take (k + 1) = l.take k ++ [a] := by
  obtain ⟨hk, rfl⟩ := List.getElem?_eq_some_iff.1 h
  rw [List.take_succ_eq_append_getElem hk]

/-- The comparison by turn. -/
theorem cmp2_ok (g gt : Nat) (w : World) (hc : w.cell? ⟨gt, 0, none⟩ = some (.func (.func 48) #[] #[])) (hne : gt ≠ g) : CmpD (fun a b => turnD a - turnD b) 51 #[.pointer (some ⟨gt, 0, none⟩)] g w := by
  intro W hW a b
  have hc' := hW.cell hc (by intro h; injection h with h; exact hne h)
  have hlt : gt < W.heap.size := block_lt_of_cell hc'
  have hta : -1 ≤ turnD a ∧ turnD a ≤ 1 := by unfold turnD; split <;> (try split) <;> omega
  have htb : -1 ≤ turnD b ∧ turnD b ≤ 1 := by unfold turnD; split <;> (try split) <;> omega
  obtain ⟨W1, hW1⟩ : ∃ W1, W1 = (W.alloc (.cells #[.int .i64 a.cs, .int .i64 a.co, .int .i64 a.cf, .int .i64 a.ct, .int .i64 a.cl, .bool a.se, .bool a.ex, .int .i64 a.fi, .int .i64 a.un] 63)).alloc (.cells #[.int .i64 b.cs, .int .i64 b.co, .int .i64 b.cf, .int .i64 b.ct, .int .i64 b.cl, .bool b.se, .bool b.ex, .int .i64 b.fi, .int .i64 b.un] 63) := ⟨_, rfl⟩
  have hb1 : Below W.heap.size W W1 := by rw [hW1]; exact ((Below.refl _ _).alloc (Nat.le_refl _) _).alloc (by simp) _
  have bA : Blk W1 W.heap.size 63 [.int .i64 a.cs, .int .i64 a.co, .int .i64 a.cf, .int .i64 a.ct, .int .i64 a.cl, .bool a.se, .bool a.ex, .int .i64 a.fi, .int .i64 a.un] := by rw [hW1]; exact Blk.alloc (Blk.new2 _ [.int .i64 a.cs, .int .i64 a.co, .int .i64 a.cf, .int .i64 a.ct, .int .i64 a.cl, .bool a.se, .bool a.ex, .int .i64 a.fi, .int .i64 a.un] rfl) _
  have bB : Blk W1 (W.heap.size + 1) 63 [.int .i64 b.cs, .int .i64 b.co, .int .i64 b.cf, .int .i64 b.ct, .int .i64 b.cl, .bool b.se, .bool b.ex, .int .i64 b.fi, .int .i64 b.un] := by rw [hW1]; exact Blk.new2 _ [.int .i64 b.cs, .int .i64 b.co, .int .i64 b.cf, .int .i64 b.ct, .int .i64 b.cl, .bool b.se, .bool b.ex, .int .i64 b.fi, .int .i64 b.un] (by simp)
  obtain ⟨M, hM⟩ : ∃ M, M = W1.heap.size := ⟨_, rfl⟩
  have hMs : W.heap.size + 1 < M := by rw [hM]; exact bB.lt
  have xa := bA.row.ext (B := M) (by omega)
  have xb := bB.row.ext (B := M) (by omega)
  have xt : ∀ (x : ExtW M W1), x.val.cell? ⟨gt, 0, none⟩ = some (.func (.func 48) #[] #[]) := fun x => (x.cell _ (by simp only; omega)).trans ((hb1.cell (p := ⟨gt, 0, none⟩) hlt).trans hc')
  have HML : Hid (M ≤ W1.heap.size) := Lib.hid (by omega)
  have HB := Lib.hid (fun (x : ExtW M W1) => hb1.trans (x.below.mono (by omega)))
  have HA := Lib.hid (fun W => turn_any a W)
  have HBt := Lib.hid (fun W => turn_any b W)
  have hw : IntKind.i64.wrap (turnD a - turnD b) = turnD a - turnD b := IntWalk.i64_in _ (by omega)
  obtain ⟨ta, eta⟩ : ∃ ta, ta = turnD a := ⟨_, rfl⟩
  obtain ⟨tb, etb⟩ : ∃ tb, tb = turnD b := ⟨_, rfl⟩
  have Hta := Lib.hid eta
  have Htb := Lib.hid etb
  rw [← eta] at HA hw hta
  rw [← etb] at HBt hw htb
  clear eta etb
  have HW1 := Lib.hid hW1
  clear hW1 hb1 bA bB hM hc' hc hW hne
  go_enter Try.func51, Try.ntmps51
  go_upto_region 1 with fail
  rw [← HW1.out]
  refine wp_region_ext M (by kernel_rfl) (by kernel_rfl) ?_
  repeat (go_big_quiet_step ((go_at_call 48; first | exact Calls.ext_of (HA.out _) HML.out | exact Calls.ext_of (HBt.out _) HML.out)))
  refine wpQuiet_nil ?_
  rintro _ ⟨x, rfl⟩
  go_wp2_with fail
  go_ret
  exact ⟨ret_int (by rw [Hta.out, Htb.out]), HB.out x⟩

/-- Whether a duty is one of the slot (R: the slot's place in the frame). -/
def nowP (R sl : Int) (d : Du) : Bool := (d.cs == R) && (decide (d.fi ≤ sl) && (d.un == -1 || decide (sl < d.un)))

theorem insort0 (A : Option Addr) (c : Nat) (fv : Value) (w : World) :
    Calls Try.prog 75 #[.slice A 0 c, .int .i64 0, .int .i64 0, fv] w fun e w' => e = .returned (.tuple #[]) ∧ w = w' := by
  go_enter Try.func75, Try.ntmps75
  go_wp2_with fail
  go_loop [8] (fun i => i = .int .i64 1) (fun _ => 0)
  case atStart => rfl
  case round =>
    obtain rfl := hrel
    go_wp2_with fail
    go_end0
    exact ⟨rfl, rfl⟩
theorem stable0 (A : Option Addr) (c : Nat) (fv : Value) (w : World) :
    Calls Try.prog 67 #[.slice A 0 c, .int .i64 0, fv] w fun e w' => e = .returned (.tuple #[]) ∧ w = w' := by
  go_enter Try.func67, Try.ntmps67
  go_wp2_with fail
  go_loop [7, 8] (fun a b => a = .int .i64 0 ∧ b = .int .i64 20) (fun _ _ => 0)
  case atStart => exact ⟨rfl, rfl⟩
  case round =>
    obtain ⟨rfl, rfl⟩ := hrel
    go_wp2_with fail
    refine (insort0 A c fv w).mono ?_
    rintro e w' ⟨rfl, rfl⟩
    go_wp2_with fail
    go_loop [6] (fun a => a = .int .i64 20) (fun _ => 0)
    case atStart => rfl
    case round =>
      obtain rfl := hrel
      go_wp2_with fail
      go_end0
      exact ⟨rfl, rfl⟩
theorem sort0 (A : Option Addr) (c : Nat) (fv : Value) (w : World) :
    Calls Try.prog 50 #[.slice A 0 c, fv] w fun e w' => e = .returned (.tuple #[]) ∧ w = w' := by
  go_enter Try.func50, Try.ntmps50
  go_wp2_with (go_at_call 67; (with_reducible refine (stable0 _ _ _ _).mono ?_); rintro e w' ⟨rfl, rfl⟩)
  go_end0
  exact ⟨rfl, rfl⟩

set_option maxRecDepth 100000 in
set_option maxHeartbeats 4000000 in
theorem at_any (l : List Du) (A : Option Addr) (c : Nat) (ln sl : Int) (w : World) (hA : Lies w w.heap.size 9 A (l.map Du.row)) (hl : l.length ≤ 1000) (h1 : 1 ≤ ln) (h2 : ln ≤ 512) (h3 : 0 ≤ sl) (h4 : sl ≤ 1073741824) :
    Calls Try.prog 20 #[.slice A l.length c, .int .i64 ln, .int .i64 sl] w fun e w' => Below w.heap.size w w' ∧ ∃ (l' : List Du) (A' : Option Addr) (c' : Nat), e = .returned (.tuple #[.slice A' l'.length c', .int .i64 0]) ∧ l'.Perm (l.filter (nowP (sl % ln) sl)) ∧ Lies w' w'.heap.size 9 A' (l'.map Du.row) := by
  obtain ⟨i0, hi, hz0, hz1, hz2⟩ := info_parts Try.infoD
  obtain ⟨R, hR⟩ : ∃ R, R = sl % ln := ⟨_, rfl⟩
  have HR := Lib.hid hR
  rw [← hR]
  have hq0 : (ln == 0) = false := by simp; omega
  have hq1 : ¬ ln = 0 := by omega
  obtain ⟨n, hn⟩ : ∃ n, n = l.length := ⟨_, rfl⟩
  rw [← hn] at hl ⊢
  obtain ⟨W0, hW0⟩ : ∃ W0, W0 = w.alloc (.cells #[.func (.func 48) #[] #[]] 79) := ⟨_, rfl⟩
  obtain ⟨N1, hN1⟩ : ∃ N1, N1 = W0.heap.size := ⟨_, rfl⟩
  have HN1 : Hid (N1 = w.heap.size + 1) := Lib.hid (by rw [hN1, hW0]; simp)
  have HN0 : Hid (N1 = W0.heap.size) := Lib.hid hN1
  have hb0 : Below w.heap.size w W0 := by rw [hW0]; exact (Below.refl _ _).alloc (Nat.le_refl _) _
  have HT : Hid (W0.cell? ⟨w.heap.size, 0, none⟩ = some (.func (.func 48) #[] #[])) := Lib.hid (by rw [hW0]; exact (Row.new w [.func (.func 48) #[] #[]] 79) 0)
  have HA := Lib.hid (fun W (h : Below N1 W0 W) => Lies.later hA (hb0.trans (h.mono (by have := HN1.out; omega))))
  have HB := Lib.hid (fun W (h : Below N1 W0 W) => (show Below w.heap.size w W from hb0.trans (h.mono (by have := HN1.out; omega))))
  have HW0 := Lib.hid hW0
  have HN := Lib.hid hn
  clear hA hn hR hW0 hN1 hb0
  go_enter Try.func20, Try.ntmps20
  go_wp2_with fail
  rw [← HW0.out]
  go_loopw [9, 24] (fun s9 i wr => ∃ (k : Nat) (v : Value), v = s9 ∧ k ≤ n ∧ i = .int .i64 k ∧ Below N1 W0 wr ∧ Hid (wr.ownsRow N1 63 9 v ((l.take k).filter (nowP R sl)).length (((l.take k).filter (nowP R sl)).flatMap Du.row))) (fun _ i _ => n - (intOf i).toNat)
  case atStart => exact ⟨0, _, rfl, by omega, rfl, Below.refl _ _, Lib.hid (World.ownsRow_nil _ _ _ _)⟩
  case round =>
    obtain ⟨k, v, rfl, hk, rfl, hb, HO⟩ := hrel
    by_cases hlt : k < n
    · obtain ⟨a, ha⟩ := get_of_lt (l := l) (k := k) (by rw [← HN.out]; exact hlt)
      obtain ⟨b, off, rfl, hbB, hcs⟩ := (HA.out _ hb).at_ ha
      have Ha := Lib.hid ha
      have c0 := hcs k a ha 0 _ rfl
      have c1 := hcs k a ha 1 _ rfl
      have c2 := hcs k a ha 2 _ rfl
      have c3 := hcs k a ha 3 _ rfl
      have c4 := hcs k a ha 4 _ rfl
      have c5 := hcs k a ha 5 _ rfl
      have c6 := hcs k a ha 6 _ rfl
      have c7 := hcs k a ha 7 _ rfl
      have c8 := hcs k a ha 8 _ rfl
      simp only [Nat.add_zero] at c0 c1 c2 c3 c4 c5 c6 c7 c8
      clear hcs ha
      go_upto_region 8 with fail
      clear c0 c1 c2 c3 c4 c5 c6 c7 c8
      generalize hW1 : wr.alloc _ = W1
      have ba : Blk W1 wr.heap.size 63 [.int .i64 a.cs, .int .i64 a.co, .int .i64 a.cf, .int .i64 a.ct, .int .i64 a.cl, .bool a.se, .bool a.ex, .int .i64 a.fi, .int .i64 a.un] := by rw [← hW1]; exact Blk.new2 _ [.int .i64 a.cs, .int .i64 a.co, .int .i64 a.cf, .int .i64 a.ct, .int .i64 a.cl, .bool a.se, .bool a.ex, .int .i64 a.fi, .int .i64 a.un] rfl
      have hb1 : Below N1 W0 W1 := by rw [← hW1]; exact hb.alloc (by have := hb.size; have := HN0.out; omega) _
      have HO1 : Hid (W1.ownsRow N1 63 9 v ((l.take k).filter (nowP R sl)).length (((l.take k).filter (nowP R sl)).flatMap Du.row)) := Lib.hid (by rw [← hW1]; exact HO.out.alloc _)
      clear hW1
      have ca := ba.row
      unfold Row at ca
      cases e1 : (a.cs == R) with
      | false =>
        have e1' : (a.cs == sl % ln) = false := by rw [← HR.out]; exact e1
        have e1'' : ¬ a.cs = sl % ln := by rw [← HR.out]; simpa using e1
        have hv : nowP R sl a = false := by unfold nowP; simp [*] at *; try omega
        have hno : Hid ((l.take (k + 1)).filter (nowP R sl) = (l.take k).filter (nowP R sl) ++ []) := Lib.hid (by rw [take_get Ha.out, List.filter_append]; simp [hv])
        rw [List.append_nil] at hno
        clear hv
        go_quiet (fail)
        generalize hWq : World.drewN _ _ = Wq
        have hbq : Below N1 W0 Wq := by rw [← hWq]; exact below_drewN hb1 _
        have HOq : Hid (Wq.ownsRow N1 63 9 v ((l.take k).filter (nowP R sl)).length (((l.take k).filter (nowP R sl)).flatMap Du.row)) := Lib.hid (by rw [← hWq]; exact HO1.out)
        clear hWq ca ba hb1 HO1 HO
        go_wp2_with fail
        go_roundw
        case rel => exact ⟨k + 1, v, rfl, by omega, by go_num, hbq, Lib.hid (by rw [hno.out]; exact HOq.out)⟩
        case measure => simp [intOf]; omega
      | true =>
        have e1' : (a.cs == sl % ln) = true := by rw [← HR.out]; exact e1
        by_cases e2 : a.fi ≤ sl
        · have d2 : decide (a.fi ≤ sl) = true := decide_eq_true e2
          cases e3 : (a.un == -1) with
          | true =>
            have hv : nowP R sl a = true := by unfold nowP; simp [*] at *; try omega
            have hno : Hid ((l.take (k + 1)).filter (nowP R sl) = (l.take k).filter (nowP R sl) ++ [a]) := Lib.hid (by rw [take_get Ha.out, List.filter_append]; simp [hv])
            clear hv
            go_quiet (fail)
            generalize hWq : World.drewN _ _ = Wq
            have hbq : Below N1 W0 Wq := by rw [← hWq]; exact below_drewN hb1 _
            have bq : Blk Wq wr.heap.size 63 [.int .i64 a.cs, .int .i64 a.co, .int .i64 a.cf, .int .i64 a.ct, .int .i64 a.cl, .bool a.se, .bool a.ex, .int .i64 a.fi, .int .i64 a.un] := by rw [← hWq]; exact ba.drewN _
            have HOq : Hid (Wq.ownsRow N1 63 9 v ((l.take k).filter (nowP R sl)).length (((l.take k).filter (nowP R sl)).flatMap Du.row)) := Lib.hid (by rw [← hWq]; exact HO1.out)
            clear hWq ca ba hb1 HO1 HO
            have cq := bq.row
            unfold Row at cq
            have HL : Hid (((l.take k).filter (nowP R sl)).length ≤ 1000) := Lib.hid (by have h1 := List.length_filter_le (nowP R sl) (l.take k); have h2 := List.length_take_le k l; omega)
            go_wp2_with (at_builtin; refine wpList_append_own_at _ rfl (.tmp 52) (.tmp 54) 54 rfl N1 63 i0 (.agg #[.int .i64 0, .int .i64 0, .int .i64 0, .int .i64 0, .int .i64 0, .bool false, .bool false, .int .i64 0, .int .i64 0]) 9 64 Try.underlying54 hi hz0 hz1 hz2 rfl (by decide) v _ _ rfl (HOq.out.alloc _) ⟨Wq.heap.size, 0, none⟩ 1 1 [.int .i64 a.cs, .int .i64 a.co, .int .i64 a.cf, .int .i64 a.ct, .int .i64 a.cl, .bool a.se, .bool a.ex, .int .i64 a.fi, .int .i64 a.un] rfl rfl ?e0 ?e1 ?e2 ?e3 ?e4 ?_)
            case e0 => exact (Blk.new2 63 [.int .i64 a.cs, .int .i64 a.co, .int .i64 a.cf, .int .i64 a.ct, .int .i64 a.cl, .bool a.se, .bool a.ex, .int .i64 a.fi, .int .i64 a.un] rfl).news2
            case e1 => intro u hu; exact oneD a u hu
            case e2 => have := HL.out; unfold maxLen; omega
            case e3 => have := HL.out; omega
            case e4 => simp; have := hbq.size; have := HN0.out; omega
            intro v3 w3 ho3 hg3 hnil3 hat3
            have hb3 : Below N1 W0 w3 := (hbq.alloc (by have := hbq.size; have := HN0.out; omega) _).grown hg3 (by simp; have := hbq.size; have := HN0.out; omega) (by intro g hg; exact (HOq.out.lt g hg).1)
            have O3 : Hid (w3.ownsRow N1 63 9 v3 ((l.take (k + 1)).filter (nowP R sl)).length (((l.take (k + 1)).filter (nowP R sl)).flatMap Du.row)) := Lib.hid (by rw [hno.out]; simpa [Du.row] using ho3)
            obtain ⟨A3, c3, hv3⟩ := own_form2 ho3
            clear ho3 hg3 hnil3 hat3 HOq cq bq HL
            subst hv3
            go_wp2_with fail
            go_roundw
            case rel => exact ⟨k + 1, _, rfl, by omega, by go_num, hb3, O3⟩
            case measure => simp [intOf]; omega
          | false =>
            by_cases e4 : sl < a.un
            · have d4 : decide (sl < a.un) = true := decide_eq_true e4
              have hv : nowP R sl a = true := by unfold nowP; simp [*] at *; try omega
              have hno : Hid ((l.take (k + 1)).filter (nowP R sl) = (l.take k).filter (nowP R sl) ++ [a]) := Lib.hid (by rw [take_get Ha.out, List.filter_append]; simp [hv])
              clear hv
              go_quiet (fail)
              generalize hWq : World.drewN _ _ = Wq
              have hbq : Below N1 W0 Wq := by rw [← hWq]; exact below_drewN hb1 _
              have bq : Blk Wq wr.heap.size 63 [.int .i64 a.cs, .int .i64 a.co, .int .i64 a.cf, .int .i64 a.ct, .int .i64 a.cl, .bool a.se, .bool a.ex, .int .i64 a.fi, .int .i64 a.un] := by rw [← hWq]; exact ba.drewN _
              have HOq : Hid (Wq.ownsRow N1 63 9 v ((l.take k).filter (nowP R sl)).length (((l.take k).filter (nowP R sl)).flatMap Du.row)) := Lib.hid (by rw [← hWq]; exact HO1.out)
              clear hWq ca ba hb1 HO1 HO
              have cq := bq.row
              unfold Row at cq
              have HL : Hid (((l.take k).filter (nowP R sl)).length ≤ 1000) := Lib.hid (by have h1 := List.length_filter_le (nowP R sl) (l.take k); have h2 := List.length_take_le k l; omega)
              go_wp2_with (at_builtin; refine wpList_append_own_at _ rfl (.tmp 52) (.tmp 54) 54 rfl N1 63 i0 (.agg #[.int .i64 0, .int .i64 0, .int .i64 0, .int .i64 0, .int .i64 0, .bool false, .bool false, .int .i64 0, .int .i64 0]) 9 64 Try.underlying54 hi hz0 hz1 hz2 rfl (by decide) v _ _ rfl (HOq.out.alloc _) ⟨Wq.heap.size, 0, none⟩ 1 1 [.int .i64 a.cs, .int .i64 a.co, .int .i64 a.cf, .int .i64 a.ct, .int .i64 a.cl, .bool a.se, .bool a.ex, .int .i64 a.fi, .int .i64 a.un] rfl rfl ?e0 ?e1 ?e2 ?e3 ?e4 ?_)
              case e0 => exact (Blk.new2 63 [.int .i64 a.cs, .int .i64 a.co, .int .i64 a.cf, .int .i64 a.ct, .int .i64 a.cl, .bool a.se, .bool a.ex, .int .i64 a.fi, .int .i64 a.un] rfl).news2
              case e1 => intro u hu; exact oneD a u hu
              case e2 => have := HL.out; unfold maxLen; omega
              case e3 => have := HL.out; omega
              case e4 => simp; have := hbq.size; have := HN0.out; omega
              intro v3 w3 ho3 hg3 hnil3 hat3
              have hb3 : Below N1 W0 w3 := (hbq.alloc (by have := hbq.size; have := HN0.out; omega) _).grown hg3 (by simp; have := hbq.size; have := HN0.out; omega) (by intro g hg; exact (HOq.out.lt g hg).1)
              have O3 : Hid (w3.ownsRow N1 63 9 v3 ((l.take (k + 1)).filter (nowP R sl)).length (((l.take (k + 1)).filter (nowP R sl)).flatMap Du.row)) := Lib.hid (by rw [hno.out]; simpa [Du.row] using ho3)
              obtain ⟨A3, c3, hv3⟩ := own_form2 ho3
              clear ho3 hg3 hnil3 hat3 HOq cq bq HL
              subst hv3
              go_wp2_with fail
              go_roundw
              case rel => exact ⟨k + 1, _, rfl, by omega, by go_num, hb3, O3⟩
              case measure => simp [intOf]; omega
            · have d4 : decide (sl < a.un) = false := decide_eq_false e4
              have hv : nowP R sl a = false := by unfold nowP; simp [*] at *; try omega
              have hno : Hid ((l.take (k + 1)).filter (nowP R sl) = (l.take k).filter (nowP R sl) ++ []) := Lib.hid (by rw [take_get Ha.out, List.filter_append]; simp [hv])
              rw [List.append_nil] at hno
              clear hv
              go_quiet (fail)
              generalize hWq : World.drewN _ _ = Wq
              have hbq : Below N1 W0 Wq := by rw [← hWq]; exact below_drewN hb1 _
              have HOq : Hid (Wq.ownsRow N1 63 9 v ((l.take k).filter (nowP R sl)).length (((l.take k).filter (nowP R sl)).flatMap Du.row)) := Lib.hid (by rw [← hWq]; exact HO1.out)
              clear hWq ca ba hb1 HO1 HO
              go_wp2_with fail
              go_roundw
              case rel => exact ⟨k + 1, v, rfl, by omega, by go_num, hbq, Lib.hid (by rw [hno.out]; exact HOq.out)⟩
              case measure => simp [intOf]; omega
        · have d2 : decide (a.fi ≤ sl) = false := decide_eq_false e2
          have hv : nowP R sl a = false := by unfold nowP; simp [*] at *; try omega
          have hno : Hid ((l.take (k + 1)).filter (nowP R sl) = (l.take k).filter (nowP R sl) ++ []) := Lib.hid (by rw [take_get Ha.out, List.filter_append]; simp [hv])
          rw [List.append_nil] at hno
          clear hv
          go_quiet (fail)
          generalize hWq : World.drewN _ _ = Wq
          have hbq : Below N1 W0 Wq := by rw [← hWq]; exact below_drewN hb1 _
          have HOq : Hid (Wq.ownsRow N1 63 9 v ((l.take k).filter (nowP R sl)).length (((l.take k).filter (nowP R sl)).flatMap Du.row)) := Lib.hid (by rw [← hWq]; exact HO1.out)
          clear hWq ca ba hb1 HO1 HO
          go_wp2_with fail
          go_roundw
          case rel => exact ⟨k + 1, v, rfl, by omega, by go_num, hbq, Lib.hid (by rw [hno.out]; exact HOq.out)⟩
          case measure => simp [intOf]; omega
    · have hto : l.take k = l := List.take_of_length_le (by rw [← HN.out]; omega)
      rw [hto] at HO
      have HL : Hid ((l.filter (nowP R sl)).length ≤ 1000) := Lib.hid (by have h1 := List.length_filter_le (nowP R sl) l; have := HN.out; omega)
      clear hto
      obtain ⟨F, hFe⟩ : ∃ F, F = l.filter (nowP R sl) := ⟨_, rfl⟩
      rw [← hFe] at HO HL
      have HFe := Lib.hid hFe
      clear hFe
      rcases HO.out.2 with ⟨hv, h0⟩ | ⟨g', cap, cur, hv, hgN, hgh, _⟩
      · subst hv
        have hF : F = [] := List.eq_nil_of_length_eq_zero h0
        clear HO h0
        go_wp2_with (go_at_call 50; refine (sort0 _ _ _ _).mono ?_; rintro e w' ⟨rfl, rfl⟩)
        go_ret2
        exact ⟨HB.out _ hb, [], none, 0, rfl, by rw [← HFe.out, hF], Lies.nil _ _ _ _⟩
      · subst hv
        have hgt : wr.cell? ⟨w.heap.size, 0, none⟩ = some (.func (.func 48) #[] #[]) := (hb.cell (p := ⟨w.heap.size, 0, none⟩) (by have := HN1.out; simp only; omega)).trans HT.out
        have Con := Lib.hid (sortS_any _ 51 _ F g' cap wr (enters_of Try.func51 (by kernel_rfl) rfl) (RowsAt.of_own Du.row_len HO.out) HL.out (cmp2_ok g' w.heap.size wr hgt (by have := HN1.out; omega)))
        clear hgt HO hgh
        go_wp2_with (go_at_call 50; (with_reducible refine Con.out.mono ?_); rintro e w2 ⟨rfl, hq⟩)
        have HP := Lib.hid hq
        clear hq Con
        go_wp2_with fail
        go_ret2
        obtain ⟨hgr, l', hp, hr⟩ := HP.out
        exact ⟨HB.out _ (hb.grown hgr (by have := hb.size; have := HN0.out; omega) (by intro k hk; injection hk with hk; omega)), l', some ⟨g', 0, none⟩, cap, by rw [hp.length_eq]; rfl, by rw [← HFe.out]; exact hp, hr.lies⟩
end Go.Proofs.Ytepamedbbbfjkaa
